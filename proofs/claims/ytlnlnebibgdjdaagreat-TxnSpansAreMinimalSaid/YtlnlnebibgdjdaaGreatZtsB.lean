/-
  What the proof of Jts stands on, part 2.
  Conditions: none.
-/
import Derived.Test.YtlnlnebibgdjdaaGreatZtsA
/-! ## Tra -/
namespace Go.V
open Go Go.RowKit
def ExB {α : Type} (f : α → List HP) : HP := ⟨fun o r => ∃ x, All (f x) o r, fun _ _ _ _ ho hr ⟨x, h⟩ => ⟨x, All.mono (f x) ho hr h⟩⟩
section
variable {α : Type} {g w : World} {L : List HP}
theorem St.exOpen {f : α → List HP} (h : St g (ExB f :: L) w) : ∃ x, St g (f x ++ L) w := by
  obtain ⟨o, r, a, b, c, d, o1, o2, h1, h2, hd, ⟨x, hh⟩, hL⟩ := h.own
  exact ⟨x, h.os, h.tape, h.output, h.size, o, r, a, b, c, d, All.cat (f x) L h1 h2 hd hh hL⟩
theorem St.exClose {f : α → List HP} (x : α) (h : St g (f x ++ L) w) : St g (ExB f :: L) w := by
  obtain ⟨o, r, a, b, c, d, e⟩ := h.own
  obtain ⟨o1, o2, h1, h2, hd, hM, hL⟩ := All.app (f x) L e
  exact ⟨h.os, h.tape, h.output, h.size, o, r, a, b, c, d, o1, o2, h1, h2, hd, ⟨x, hM⟩, hL⟩
end
def u32s (l : List Int) : List (List Value) := l.map fun x => [.int .u32 x]
@[simp] theorem u32s_len (l : List Int) : (u32s l).length = l.length := by simp [u32s]
theorem u32s_at {l : List Int} {k : Nat} {x : Int} (h : l[k]? = some x) : (u32s l)[k]? = some [.int .u32 x] := by simp [u32s, h]
theorem u32s_app (l m : List Int) : u32s (l ++ m) = u32s l ++ u32s m := by simp [u32s]
theorem u32s_take (l : List Int) (k : Nat) : (u32s l).take k = u32s (l.take k) := by simp [u32s]
theorem u32s_set (l : List Int) (k : Nat) (x : Int) : (u32s l).set k [.int .u32 x] = u32s (l.set k x) := by simp [u32s, List.map_set]
theorem u32s_rep (n : Nat) : List.replicate n [.int .u32 0] = u32s (List.replicate n 0) := by simp [u32s]
theorem u32s_ok (l : List Int) : OkE 1 (u32s l) := fun x hx => by
  obtain ⟨y, _, rfl⟩ := List.mem_map.1 hx
  exact ⟨rfl, fun u hu => by simp at hu; rcases hu with rfl <;> rfl⟩
def bos (l : List Bool) : List (List Value) := l.map fun x => [.bool x]
@[simp] theorem bos_len (l : List Bool) : (bos l).length = l.length := by simp [bos]
theorem bos_at {l : List Bool} {k : Nat} {x : Bool} (h : l[k]? = some x) : (bos l)[k]? = some [.bool x] := by simp [bos, h]
theorem bos_set (l : List Bool) (k : Nat) (x : Bool) : (bos l).set k [.bool x] = bos (l.set k x) := by simp [bos, List.map_set]
theorem bos_rep (n : Nat) : List.replicate n [.bool false] = bos (List.replicate n false) := by simp [bos]
theorem i64s_rep (n : Nat) : List.replicate n [.int .i64 0] = i64s (List.replicate n 0) := by simp [i64s]
structure Nd where
  key : Int
  val : Int
  lf : Int
  rg : Int
  size : Int
  sum : Int
  mn : Int
  mx : Int
def Nd.zero : Nd := ⟨0, 0, 0, 0, 0, 0, 0, 0⟩
def ndC (n : Nd) : List Value := [.int .i64 n.key, .int .i64 n.val, .int .u32 n.lf, .int .u32 n.rg, .int .i64 n.size, .int .i64 n.sum, .int .i64 n.mn, .int .i64 n.mx]
def nds (l : List Nd) : List (List Value) := l.map ndC
@[simp] theorem nds_len (l : List Nd) : (nds l).length = l.length := by simp [nds]
theorem nds_at {l : List Nd} {k : Nat} {n : Nd} (h : l[k]? = some n) : (nds l)[k]? = some [.int .i64 n.key, .int .i64 n.val, .int .u32 n.lf, .int .u32 n.rg, .int .i64 n.size, .int .i64 n.sum, .int .i64 n.mn, .int .i64 n.mx] := by simp [nds, h, ndC]
theorem nds_set (l : List Nd) (k : Nat) (n : Nd) : (nds l).set k [.int .i64 n.key, .int .i64 n.val, .int .u32 n.lf, .int .u32 n.rg, .int .i64 n.size, .int .i64 n.sum, .int .i64 n.mn, .int .i64 n.mx] = nds (l.set k n) := by simp [nds, ndC, List.map_set]
theorem nds_rep (n : Nat) : List.replicate n [.int .i64 0, .int .i64 0, .int .u32 0, .int .u32 0, .int .i64 0, .int .i64 0, .int .i64 0, .int .i64 0] = nds (List.replicate n Nd.zero) := by simp [nds, ndC, Nd.zero]
end Go.V
namespace Go.V
open Go Go.RowKit
theorem flat_split : ∀ (ls : List (List Value)) (size : Nat), (∀ x ∈ ls, x.length = size) → ∀ (k : Nat) (vs : List Value), k < ls.length → vs.length = size → (ls.set k vs).flatten = ls.flatten.take (k * size) ++ vs ++ ls.flatten.drop (k * size + size)
  | [], _, _, k, _, h, _ => by simp at h
  | x :: r, size, hs, 0, vs, _, hv => by
    have hx := hs x (List.mem_cons_self ..)
    subst hx
    simp
  | x :: r, size, hs, k + 1, vs, h, hv => by
    have hx := hs x (List.mem_cons_self ..)
    have ih := flat_split r size (fun y hy => hs y (List.mem_cons_of_mem _ hy)) k vs (by simpa using h) hv
    rw [List.set_cons_succ, List.flatten_cons, ih, List.flatten_cons, Nat.succ_mul]
    rw [List.take_append, List.drop_append, hx]
    rw [show k * size + size - size = k * size by omega, show k * size + size + size - size = k * size + size by omega]
    rw [List.take_of_length_le (l := x) (by omega), List.drop_of_length_le (l := x) (by omega)]
    simp
theorem take_spl {cur vs : List Value} {off n : Nat} (h1 : off + vs.length ≤ n) (h2 : n ≤ cur.length) : (cur.take off ++ vs ++ cur.drop (off + vs.length)).take n = (cur.take n).take off ++ vs ++ (cur.take n).drop (off + vs.length) := by
  rw [List.take_append, List.take_append, List.length_append, List.length_take, List.take_take, List.take_take, List.drop_take]
  rw [show min off cur.length = off by omega, show min n off = off by omega, show min off n = off by omega]
  rw [List.take_of_length_le (l := vs) (by omega)]
section
variable {P : Program} {T : Tab} [hT : TabOk P T] {n : Nat} {os l : List Oper} {K : Kt} {F : Fm} {w g : World} {L : List HP} {e size c : Nat} {ls : List (List Value)} {a : Option Addr}
theorem St.setS {k b : Nat} {cs vs : List Value} {cur : Array Value} (h : St g (Own e size ls (some ⟨b, 0, none⟩) c :: L) w) (hk : ls[k]? = some cs) (hh : w.heap[b]? = some (.cells cur e (0, 0))) (hl : vs.length = size) (hv : ∀ u ∈ vs, u.oneCell' = true) :
    k * size + size ≤ cur.size ∧ St g (Own e size (ls.set k vs) (some ⟨b, 0, none⟩) c :: L) (w.setRow b (spl cur (k * size) vs)) := by
  have hkl : k < ls.length := (List.getElem?_eq_some_iff.1 hk).1
  have hsz : k * size + size ≤ cur.size := by
    obtain ⟨o1, r, hA, ho, hr⟩ := h.get 0 rfl
    obtain ⟨hok, hA⟩ := hA
    rcases hA with ⟨_, _, h3⟩ | ⟨b', cur', hb, h2, h3, h4, h5, h6⟩
    · subst h3; simp at hkl
    · cases hb
      have := ho _ _ h2
      rw [hh] at this; cases this
      rw [h5]
      calc k * size + size = (k + 1) * size := by rw [Nat.succ_mul]
        _ ≤ c * size := Nat.mul_le_mul_right _ (by omega)
  refine ⟨hsz, h.upd rfl rfl rfl (by simp [World.setRow]) fun o1 r hA hw _ _ => ?_⟩
  obtain ⟨hok, hA⟩ := hA
  rcases hA with ⟨_, _, h3⟩ | ⟨b', cur', hb, h2, h3, h4, h5, h6⟩
  · subst h3; simp at hkl
  · cases hb
    have := hw _ _ h2
    rw [hh] at this; cases this
    have hok' : OkE size (ls.set k vs) := fun x hx => by
      rcases List.mem_or_eq_of_mem_set hx with hx | rfl
      · exact hok x hx
      · exact ⟨hl, hv⟩
    have hlt : ls.length * size ≤ cur.size := by rw [h5]; exact Nat.mul_le_mul_right _ h3
    have hkn : k * size + size ≤ ls.length * size := by
      calc k * size + size = (k + 1) * size := by rw [Nat.succ_mul]
        _ ≤ ls.length * size := Nat.mul_le_mul_right _ (by omega)
    refine ⟨fun q => if q = b then some (.cells (spl cur (k * size) vs) e (0, 0)) else none, ⟨hok', .inr ⟨b, spl cur (k * size) vs, rfl, by simp, by simpa using h3, h4, ?_, ?_⟩⟩, fun q x hx => ?_, fun q hq => ?_, fun q hq hn => ?_⟩
    · rw [← h5]; unfold spl; simp; omega
    · rw [List.length_set]
      show (cur.toList.take (k * size) ++ vs ++ cur.toList.drop (k * size + vs.length)).take (ls.length * size) = _
      rw [take_spl (by omega) (by simpa using hlt), h6, flat_split ls size hok.len k vs hkl hl, hl]
    · simp only at hx
      split at hx
      · rename_i hq; subst hq; simp only [Option.some.injEq] at hx; subst hx
        exact setRow_heap w _ cur _ e _ (hw _ _ h2)
      · cases hx
    · simp only [ne_eq, ite_eq_right_iff, reduceCtorEq, imp_false, Classical.not_not] at hq
      subst hq
      exact .inl (by rw [h2]; simp)
    · refine setRow_other w b q _ fun eq => ?_
      have : o1 q = some (.cells cur e (0, 0)) := by rw [eq]; exact h2
      rw [hn] at this; cases this
theorem WL.stS {o : Oper} {t : TypeId} {x y : Operand} {vs : Array Value} (hg : o.guard = none) (hd : o.dst = none) (ho : o.op = .store t x y) (i k : Nat) (cs : List Value) (ls' : List (List Value)) (hS : St g L w) (hi : L[i]? = some (Own e size ls a c)) (hks : ls[k]? = some cs) (hx : ev F x = .pointer (some ⟨bo a, oo a + k * size, none⟩)) (hv : ev F y = .agg vs)
    (h1 : vs.toList.all (·.oneCell') = true) (hl : vs.size = size) (ht : AggT P t vs.size) (hls : ls.set k vs.toList = ls') (hk : ∀ w', St g (L.set i (Own e size ls' a c)) w' → WL P n os l K F w') : WL P n os (o :: l) K F w := by
  subst hls
  obtain ⟨b, cur, rfl, hh, _⟩ := hS.ownRow i hi hks
  have hall : ∀ u ∈ vs.toList, u.oneCell' = true := fun u hu => List.all_eq_true.1 h1 u hu
  obtain ⟨hsz, hS1⟩ := (hS.at_ i hi).setS hks hh (by simpa using hl) hall
  have hS' := hS1.back i hi
  refine WL.unit hg hd (fun hok => ?_) (hk _ hS')
  have e1 := okX_at (F := F) hok (x := x) (by simp [ho, Op.operands])
  have e2 := okX_at (F := F) hok (x := y) (by simp [ho, Op.operands])
  simp only [bo, oo, Nat.zero_add] at hx
  have hst := run_storeVar (P := P) (t := t) (off := k * size) (v := .agg vs) ht.2.2 hh hall (by show k * size + vs.size ≤ _; omega)
  rw [show (Value.agg vs).cells.toList = vs.toList from rfl] at hst
  simp only [execOp, ho, e1, e2, hx, hv, Instr.storeAt, Instr.sureAddr, Sem.run_bind, Sem.run_pure, Result.andThen_ok, hst]
end
end Go.V
namespace Go.V
open Go Go.RowKit
structure SM where
  used : List Bool
  gen : List Int
  rel : List Int
  fresh : Int
def SM.cap (S : SM) : Int := (S.used.length : Int) - 1
def SM.free (S : SM) : Int := (S.rel.length : Int) + S.cap - S.fresh
def SM.next (S : SM) : Int := match S.rel.getLast? with
  | some i => i
  | none => S.fresh + 1
def SM.genOf (S : SM) (i : Int) : Int := (S.gen[i.toNat]?).getD 0
def SM.alloc (S : SM) : SM := ⟨S.used.set S.next.toNat true, S.gen.set S.next.toNat ((S.genOf S.next + 1) % 4294967296), S.rel.dropLast, if S.rel = [] then S.fresh + 1 else S.fresh⟩
def SM.ok (S : SM) (i : Int) : Bool := (S.used[i.toNat]?).getD false
def SM.release (S : SM) (i : Int) : SM := ⟨S.used.set i.toNat false, S.gen, S.rel ++ [i], S.fresh⟩
def SM.new (cap : Nat) : SM := ⟨List.replicate (cap + 1) false, List.replicate (cap + 1) 0, [], 0⟩
structure SOk (S : SM) : Prop where
  cap : 2 ≤ S.used.length ∧ S.used.length ≤ 65537
  gl : S.gen.length = S.used.length
  fr : 0 ≤ S.fresh ∧ S.fresh ≤ S.cap
  rm : ∀ i ∈ S.rel, 1 ≤ i ∧ i ≤ S.fresh ∧ S.ok i = false
  nd : S.rel.Nodup
  u0 : S.ok 0 = false
  hi : ∀ i : Int, S.fresh < i → S.ok i = false
  cov : ∀ i : Int, 1 ≤ i → i ≤ S.fresh → S.ok i = false → i ∈ S.rel
  gr : ∀ x ∈ S.gen, 0 ≤ x ∧ x < 4294967296
theorem SOk.le {S : SM} (h : SOk S) : S.used.length ≤ 65537 := h.cap.2
theorem nodup_bnd : ∀ (n : Nat) (l : List Int), l.Nodup → (∀ i ∈ l, 1 ≤ i ∧ i ≤ (n : Int)) → l.length ≤ n
  | 0, l, _, h => by
    cases l with
    | nil => exact Nat.le_refl _
    | cons x t => have := h x (List.mem_cons_self ..); omega
  | n + 1, l, hd, h => by
    have h1 : (l.erase ((n : Int) + 1)).length ≤ n := nodup_bnd n _ (hd.erase _) fun i hi => by
      have h2 := (hd.mem_erase_iff).1 hi
      have h3 := h i h2.2
      have h4 := h2.1
      omega
    have h2 := List.length_erase (a := (n : Int) + 1) (l := l)
    split at h2 <;> omega
theorem SOk.rle {S : SM} (h : SOk S) : S.rel.length ≤ 65536 := by
  have h1 : S.rel.length ≤ S.used.length - 1 := nodup_bnd _ _ h.nd fun i hi => by
    have h2 := h.rm i hi
    have h3 := h.fr
    have h4 : S.cap = (S.used.length : Int) - 1 := rfl
    have h5 := h.cap
    omega
  have h5 := h.cap
  omega
theorem SM.ok_rng {S : SM} (h : SOk S) {i : Int} (h0 : 0 ≤ i) (hi : S.ok i = true) : 1 ≤ i ∧ i ≤ S.fresh ∧ i ≤ S.cap ∧ i.toNat < S.used.length := by
  have h1 : i ≠ 0 := fun e => by subst e; rw [h.u0] at hi; cases hi
  have h2 : ¬ S.fresh < i := fun e => by rw [h.hi i e] at hi; cases hi
  have h3 := h.fr
  have h4 : S.cap = (S.used.length : Int) - 1 := rfl
  omega
theorem SM.ok_set {S : SM} {i j : Int} {b : Bool} (hi : 0 ≤ i) (hj : 0 ≤ j) (hl : i.toNat < S.used.length) : ((S.used.set i.toNat b)[j.toNat]?).getD false = if j = i then b else S.ok j := by
  rw [List.getElem?_set]
  by_cases h : j = i
  · subst h; rw [if_pos rfl, if_pos hl, if_pos rfl]; rfl
  · rw [if_neg (by omega), if_neg h]; rfl
theorem ok_getD {l : List Bool} {i : Int} : (l[i.toNat]?).getD false = true → i.toNat < l.length := fun h => by
  rcases Nat.lt_or_ge i.toNat l.length with h1 | h1
  · exact h1
  · rw [List.getElem?_eq_none h1] at h; cases h
theorem SM.new_ok {cap : Nat} (h : 1 ≤ cap ∧ cap ≤ 65536) : SOk (SM.new cap) := by
  have hno : ∀ i : Int, (SM.new cap).ok i = false := fun i => by
    unfold SM.ok SM.new
    simp only
    cases hx : (List.replicate (cap + 1) false)[i.toNat]? with
    | none => rfl
    | some b => rw [List.eq_of_mem_replicate (List.mem_of_getElem? hx)]; rfl
  refine ⟨by simp [SM.new]; omega, by simp [SM.new], by simp [SM.new, SM.cap], fun i hi => (by cases hi), List.nodup_nil, hno 0, fun i _ => hno i, fun i h1 h2 => ?_, fun x hx => ?_⟩
  · simp only [SM.new] at h2; omega
  · rw [List.eq_of_mem_replicate hx]; omega
theorem SM.next_some {S : SM} {i : Int} (h : S.rel.getLast? = some i) : S.next = i := by unfold SM.next; rw [h]
theorem SM.next_nil {S : SM} (h : S.rel = []) : S.next = S.fresh + 1 := by unfold SM.next; rw [h]; rfl
theorem SM.next_rng {S : SM} (h : SOk S) (hf : 0 < S.free) : 1 ≤ S.next ∧ S.next ≤ S.cap ∧ S.next.toNat < S.used.length ∧ S.ok S.next = false := by
  have hc : S.cap = (S.used.length : Int) - 1 := rfl
  have hfr := h.fr
  cases hg : S.rel.getLast? with
  | some i =>
    have hm := h.rm i (List.mem_of_getLast? hg)
    rw [SM.next_some hg]
    exact ⟨hm.1, by omega, by omega, hm.2.2⟩
  | none =>
    have hr : S.rel = [] := List.getLast?_eq_none_iff.1 hg
    unfold SM.free at hf
    rw [hr] at hf
    simp only [List.length_nil] at hf
    rw [SM.next_nil hr]
    exact ⟨by omega, by omega, by omega, h.hi _ (by omega)⟩
theorem rel_split {S : SM} (hne : S.rel ≠ []) : S.rel = S.rel.dropLast ++ [S.next] := by
  have h2 : S.next = S.rel.getLast hne := SM.next_some (List.getLast?_eq_some_getLast hne)
  rw [h2]; exact (List.dropLast_concat_getLast hne).symm
theorem SM.alloc_ok' {S : SM} (h : SOk S) (hf : 0 < S.free) {j : Int} (hj : 0 ≤ j) : S.alloc.ok j = if j = S.next then true else S.ok j := by
  have hn := S.next_rng h hf
  exact SM.ok_set (by omega) hj hn.2.2.1
theorem SM.alloc_free (S : SM) : S.alloc.free = S.free - 1 := by
  unfold SM.free SM.cap SM.alloc
  simp only [List.length_set, List.length_dropLast]
  by_cases hr : S.rel = []
  · rw [if_pos hr, hr]; simp; omega
  · rw [if_neg hr]
    have : 0 < S.rel.length := List.length_pos_iff.2 hr
    omega
theorem SM.alloc_sok {S : SM} (h : SOk S) (hf : 0 < S.free) : SOk S.alloc := by
  have hn := S.next_rng h hf
  have hc : S.cap = (S.used.length : Int) - 1 := rfl
  have hfr := h.fr
  have hcap : S.alloc.cap = S.cap := by unfold SM.cap SM.alloc; simp
  have hal := fun (j : Int) (hj : 0 ≤ j) => S.alloc_ok' h hf hj
  have hneg : ∀ j : Int, j < 0 → S.alloc.ok j = false := fun j hj => by
    have e : S.alloc.ok j = S.alloc.ok 0 := by unfold SM.ok; rw [show j.toNat = (0 : Int).toNat by omega]
    rw [e, hal 0 (Int.le_refl _), if_neg (by omega), h.u0]
  have hmem : ∀ i, i ∈ S.alloc.rel → i ∈ S.rel ∧ i ≠ S.next := fun i hi => by
    have hi2 : i ∈ S.rel.dropLast := hi
    have hne : S.rel ≠ [] := fun e => by rw [e] at hi2; cases hi2
    have hs := rel_split hne
    refine ⟨by rw [hs]; exact List.mem_append_left _ hi2, fun e => ?_⟩
    have hnd := h.nd
    rw [hs] at hnd
    exact (List.nodup_append.1 hnd).2.2 i hi2 S.next (List.mem_singleton.2 rfl) e
  have hfresh : S.fresh ≤ S.alloc.fresh ∧ S.alloc.fresh ≤ S.cap := by
    unfold SM.alloc
    simp only
    by_cases hr : S.rel = []
    · rw [if_pos hr]
      unfold SM.free at hf
      rw [hr] at hf; simp at hf; omega
    · rw [if_neg hr]; omega
  refine ⟨?_, ?_, by rw [hcap]; omega, fun i hi => ?_, ?_, ?_, fun i hi => ?_, fun i h1 h2 h3 => ?_, fun x hx => ?_⟩
  · unfold SM.alloc; simpa using h.cap
  · unfold SM.alloc; simpa using h.gl
  · obtain ⟨h1, h2⟩ := hmem i hi
    have h3 := h.rm i h1
    exact ⟨h3.1, by omega, by rw [hal i (by omega), if_neg h2]; exact h3.2.2⟩
  · have h1 : S.alloc.rel = S.rel.dropLast := rfl
    rw [h1]; exact h.nd.sublist (List.dropLast_sublist _)
  · rw [hal 0 (Int.le_refl _), if_neg (by omega)]; exact h.u0
  · rcases Int.lt_or_le i 0 with h0 | h0
    · exact hneg i h0
    · rw [hal i h0]
      have hne : i ≠ S.next := fun e => by
        by_cases hr : S.rel = []
        · have e2 : S.alloc.fresh = S.fresh + 1 := by unfold SM.alloc; simp only; rw [if_pos hr]
          have e3 := SM.next_nil hr
          omega
        · have := h.rm S.next (by rw [rel_split hr]; simp)
          omega
      rw [if_neg hne]
      exact h.hi i (by omega)
  · rw [hal i (by omega)] at h3
    split at h3
    · cases h3
    · rename_i hne
      have h1r : S.alloc.rel = S.rel.dropLast := rfl
      rw [h1r]
      by_cases hr : S.rel = []
      · have e2 : S.alloc.fresh = S.fresh + 1 := by unfold SM.alloc; simp only; rw [if_pos hr]
        have e3 := SM.next_nil hr
        have := h.cov i h1 (by omega) h3
        rw [hr] at this; cases this
      · have e2 : S.alloc.fresh = S.fresh := by unfold SM.alloc; simp only; rw [if_neg hr]
        have := h.cov i h1 (by omega) h3
        rw [rel_split hr] at this
        rcases List.mem_append.1 this with h4 | h4
        · exact h4
        · exact absurd (List.mem_singleton.1 h4) hne
  · have hx2 : x ∈ S.gen.set S.next.toNat ((S.genOf S.next + 1) % 4294967296) := hx
    rcases List.mem_or_eq_of_mem_set hx2 with h1 | rfl
    · exact h.gr x h1
    · omega
theorem SM.release_ok' {S : SM} (h : SOk S) {i : Int} (h0 : 0 ≤ i) (hi : S.ok i = true) {j : Int} (hj : 0 ≤ j) : (S.release i).ok j = if j = i then false else S.ok j :=
  SM.ok_set h0 hj (SM.ok_rng h h0 hi).2.2.2
theorem SM.release_free {S : SM} (i : Int) : (S.release i).free = S.free + 1 := by
  unfold SM.free SM.cap SM.release
  simp only [List.length_set, List.length_append, List.length_singleton]
  omega
theorem SM.release_sok {S : SM} (h : SOk S) {i : Int} (h0 : 0 ≤ i) (hi : S.ok i = true) : SOk (S.release i) := by
  have hr := SM.ok_rng h h0 hi
  have hcap : (S.release i).cap = S.cap := by unfold SM.cap SM.release; simp
  have hal := fun (j : Int) (hj : 0 ≤ j) => SM.release_ok' h h0 hi hj
  have hneg : ∀ j : Int, j < 0 → (S.release i).ok j = false := fun j hj => by
    have e : (S.release i).ok j = (S.release i).ok 0 := by unfold SM.ok; rw [show j.toNat = (0 : Int).toNat by omega]
    rw [e, hal 0 (Int.le_refl _), if_neg (by omega), h.u0]
  have hfr := h.fr
  refine ⟨?_, ?_, by rw [hcap]; exact h.fr, fun j hj => ?_, ?_, ?_, fun j hj => ?_, fun j h1 h2 h3 => ?_, h.gr⟩
  · unfold SM.release; simpa using h.cap
  · unfold SM.release; simpa using h.gl
  · have hj2 : j ∈ S.rel ++ [i] := hj
    rcases List.mem_append.1 hj2 with h1 | h1
    · have h2 := h.rm j h1
      refine ⟨h2.1, h2.2.1, ?_⟩
      rw [hal j (by omega)]
      split
      · rfl
      · exact h2.2.2
    · rw [List.mem_singleton.1 h1]
      exact ⟨hr.1, hr.2.1, by rw [hal i h0, if_pos rfl]⟩
  · show (S.rel ++ [i]).Nodup
    refine List.nodup_append.2 ⟨h.nd, List.pairwise_singleton _ _, fun a ha b hb e => ?_⟩
    rw [List.mem_singleton.1 hb] at e
    have := (h.rm a ha).2.2
    rw [e, hi] at this; cases this
  · rw [hal 0 (Int.le_refl _), if_neg (by omega)]; exact h.u0
  · have hj2 : S.fresh < j := hj
    rcases Int.lt_or_le j 0 with h1 | h1
    · exact hneg j h1
    · rw [hal j h1]
      split
      · rfl
      · exact h.hi j hj2
  · have h2' : j ≤ S.fresh := h2
    show j ∈ S.rel ++ [i]
    rw [hal j (by omega)] at h3
    split at h3
    · rename_i e; subst e; simp
    · exact List.mem_append_left _ (h.cov j h1 h2' h3)
end Go.V
namespace Go.V
open Go Go.RowKit
structure SlA where
  ua : Option Addr
  uc : Nat
  ga : Option Addr
  gc : Nat
  ra : Option Addr
  rc : Nat
def sltF (s : Nat) (S : SM) (x : SlA) : List HP := [cel s #[.slice x.ua (bos S.used).length x.uc, .slice x.ga (u32s S.gen).length x.gc, .slice x.ra (u32s S.rel).length x.rc, .int .u32 S.fresh] 233, Own 4 1 (bos S.used) x.ua x.uc, Own 64 1 (u32s S.gen) x.ga x.gc, Own 64 1 (u32s S.rel) x.ra x.rc]
def Slt (s : Nat) (S : SM) : HP := ExB (sltF s S)
structure AM where
  s : SM
  nodes : List Nd
  cnt : List Int
structure ArA where
  p : Nat
  na : Option Addr
  nc : Nat
  ca : Option Addr
  cc : Nat
  rd : Int
def arnF (a : Nat) (A : AM) (x : ArA) : List HP := [cel a #[.pointer (some ⟨x.p, 0, none⟩), .slice x.na (nds A.nodes).length x.nc, .slice x.ca (i64s A.cnt).length x.cc, .int .u64 x.rd] 153, Slt x.p A.s, Own 165 8 (nds A.nodes) x.na x.nc, Own 3 1 (i64s A.cnt) x.ca x.cc]
def Arn (a : Nat) (A : AM) : HP := ExB (arnF a A)
structure TM where
  s : SM
  vals : List Int
structure TbA where
  p : Nat
  va : Option Addr
  vc : Nat
end Go.V
namespace Go.V
open Go Go.RowKit
def AM.new (cap : Nat) : AM := ⟨SM.new cap, List.replicate (cap + 1) Nd.zero, List.replicate (cap + 1) 0⟩
def AM.cntOf (A : AM) (i : Int) : Int := (A.cnt[i.toNat]?).getD 0
def AM.inc (A : AM) (i : Int) : AM := ⟨A.s, A.nodes, A.cnt.set i.toNat (IntKind.i64.wrap (A.cntOf i + 1))⟩
def AM.dec (A : AM) (i : Int) : AM := ⟨A.s, A.nodes, A.cnt.set i.toNat (IntKind.i64.wrap (A.cntOf i - 1))⟩
structure AWf (A : AM) : Prop where
  s : SOk A.s
  nl : A.nodes.length = A.s.used.length
  cl : A.cnt.length = A.s.used.length
theorem AM.new_wf {cap : Nat} (h : 1 ≤ cap ∧ cap ≤ 65536) : AWf (AM.new cap) := ⟨SM.new_ok h, by simp [AM.new, SM.new], by simp [AM.new, SM.new]⟩
theorem AWf.inc {A : AM} (h : AWf A) (i : Int) : AWf (A.inc i) := ⟨h.s, h.nl, by simpa [AM.inc] using h.cl⟩
def AM.retE (A : AM) (i : Int) : Int := if i = 0 ∨ A.s.ok i = true then 0 else 3
def AM.ret (A : AM) (i : Int) : AM := if i ≠ 0 ∧ A.s.ok i = true then A.inc i else A
theorem SM.new_free (cap : Nat) : (SM.new cap).free = cap := by
  simp [SM.free, SM.cap, SM.new]
end Go.V
namespace Go.V
open Go Go.RowKit
def SM.hd (S : SM) (i : Int) : Int := S.genOf i * 4294967296 + i
def SM.opn (S : SM) (h : Int) : Bool := S.ok (h % 4294967296) && decide (S.hd (h % 4294967296) = h)
structure TOk (T : TM) : Prop where
  s : SOk T.s
  vl : T.vals.length = T.s.used.length
  vr : ∀ x ∈ T.vals, 0 ≤ x ∧ x < 4294967296
def TM.val (T : TM) (h : Int) : Int := (T.vals[(h % 4294967296).toNat]?).getD 0
def TM.open (T : TM) (v : Int) : TM := ⟨T.s.alloc, T.vals.set T.s.next.toNat v⟩
def TM.new (cap : Nat) : TM := ⟨SM.new cap, List.replicate (cap + 1) 0⟩
theorem TM.new_ok {cap : Nat} (h : 1 ≤ cap ∧ cap ≤ 65536) : TOk (TM.new cap) := ⟨SM.new_ok h, by simp [TM.new, SM.new], fun x hx => by rw [List.eq_of_mem_replicate hx]; omega⟩
theorem TOk.open {T : TM} (h : TOk T) (hf : 0 < T.s.free) {v : Int} (hv : 0 ≤ v ∧ v < 4294967296) : TOk (T.open v) := by
  refine ⟨SM.alloc_sok h.s hf, ?_, fun x hx => ?_⟩
  · show (T.vals.set _ _).length = (T.s.used.set _ _).length
    rw [List.length_set, List.length_set]; exact h.vl
  · rcases List.mem_or_eq_of_mem_set (show x ∈ T.vals.set _ _ from hx) with h1 | rfl
    · exact h.vr x h1
    · exact hv
end Go.V
namespace Go.V
open Go
inductive Tr where
  | nil
  | node (l : Tr) (k v : Int) (r : Tr)
namespace Tr
def n : Tr → Nat
  | nil => 0
  | node l _ _ r => l.n + r.n + 1
def ls : Tr → List (Int × Int)
  | nil => []
  | node l k v r => l.ls ++ (k, v) :: r.ls
def ht : Tr → Nat
  | nil => 0
  | node l _ _ r => max l.ht r.ht + 1
end Tr
abbrev Bal (a b : Nat) : Prop := a + 1 ≤ 3 * (b + 1) ∧ b + 1 ≤ 3 * (a + 1)
namespace Tr
def ok : Tr → Prop
  | nil => True
  | node l _ _ r => Bal l.n r.n ∧ l.ok ∧ r.ok
theorem ls_len : ∀ t : Tr, t.ls.length = t.n
  | nil => rfl
  | node l _ _ r => by simp [ls, n, ls_len l, ls_len r]; omega
theorem n0 {t : Tr} (h : t.n = 0) : t = nil := by
  cases t with
  | nil => rfl
  | node => simp [n] at h
def dbL (l : Tr) (k v fk fv : Int) (s : Tr) : Tr → Tr
  | nil => nil
  | node x gk gv y => node (node l k v x) gk gv (node y fk fv s)
def litL (l : Tr) (k v : Int) : Tr → Tr
  | nil => node l k v nil
  | node m fk fv s => if m.n = 0 ∨ (Bal l.n m.n ∧ Bal (l.n + m.n + 1) s.n) then node (node l k v m) fk fv s else dbL l k v fk fv s m
def dbR (r : Tr) (k v fk fv : Int) (s : Tr) : Tr → Tr
  | nil => nil
  | node x gk gv y => node (node s fk fv x) gk gv (node y k v r)
def litR (r : Tr) (k v : Int) : Tr → Tr
  | nil => node nil k v r
  | node s fk fv m => if m.n = 0 ∨ (Bal m.n r.n ∧ Bal s.n (m.n + r.n + 1)) then node s fk fv (node m k v r) else dbR r k v fk fv s m
def bal (l : Tr) (k v : Int) (r : Tr) : Tr := if Bal l.n r.n then node l k v r else if l.n < r.n then litL l k v r else litR r k v l
def join : Tr → Int → Int → Tr → Tr
  | nil, k, v, nil => node nil k v nil
  | nil, k, v, node m fk fv s => if Bal 0 (m.n + s.n + 1) then node nil k v (node m fk fv s) else bal (join nil k v m) fk fv s
  | node s fk fv m, k, v, nil => if Bal (s.n + m.n + 1) 0 then node (node s fk fv m) k v nil else bal s fk fv (join m k v nil)
  | node s fk fv m, k, v, node m' fk' fv' s' => if Bal (s.n + m.n + 1) (m'.n + s'.n + 1) then node (node s fk fv m) k v (node m' fk' fv' s')
    else if m'.n + s'.n < s.n + m.n then bal s fk fv (join m k v (node m' fk' fv' s')) else bal (join (node s fk fv m) k v m') fk' fv' s'
termination_by l _ _ r => l.n + r.n
decreasing_by all_goals simp only [n]; omega
def jc : Tr → Tr → Nat
  | nil, nil => 1
  | nil, node m _ _ s => if Bal 0 (m.n + s.n + 1) then 1 else jc nil m + 3
  | node s _ _ m, nil => if Bal (s.n + m.n + 1) 0 then 1 else jc m nil + 3
  | node s fk fv m, node m' fk' fv' s' => if Bal (s.n + m.n + 1) (m'.n + s'.n + 1) then 1
    else if m'.n + s'.n < s.n + m.n then jc m (node m' fk' fv' s') + 3 else jc (node s fk fv m) m' + 3
termination_by l r => l.n + r.n
decreasing_by all_goals simp only [n]; omega
theorem litL_n {l r : Tr} {k v : Int} (hr : r ≠ nil) : (litL l k v r).n = l.n + r.n + 1 ∧ (litL l k v r).ls = l.ls ++ (k, v) :: r.ls := by
  cases r with
  | nil => exact absurd rfl hr
  | node m fk fv s =>
    rw [litL]
    split
    · exact ⟨by simp only [n]; omega, by simp [ls]⟩
    · cases m with
      | nil => simp [n] at *
      | node x gk gv y => exact ⟨by simp only [dbL, n]; omega, by simp [dbL, ls]⟩
theorem litR_n {l r : Tr} {k v : Int} (hl : l ≠ nil) : (litR r k v l).n = l.n + r.n + 1 ∧ (litR r k v l).ls = l.ls ++ (k, v) :: r.ls := by
  cases l with
  | nil => exact absurd rfl hl
  | node s fk fv m =>
    rw [litR]
    split
    · exact ⟨by simp only [n]; omega, by simp [ls]⟩
    · cases m with
      | nil => simp [n] at *
      | node x gk gv y => exact ⟨by simp only [dbR, n]; omega, by simp [dbR, ls]⟩
theorem bal_n (l : Tr) (k v : Int) (r : Tr) : (bal l k v r).n = l.n + r.n + 1 ∧ (bal l k v r).ls = l.ls ++ (k, v) :: r.ls := by
  unfold bal
  split
  · exact ⟨rfl, rfl⟩
  · rename_i h
    split
    · refine litL_n fun e => ?_
      subst e; simp [n] at *
    · refine litR_n fun e => ?_
      subst e
      simp only [n] at *
      have : r.n = 0 := by omega
      omega
def Near (a b : Nat) : Prop := 3 * (b + 1) ≤ 13 * (a + 1)
theorem litL_ok {l r : Tr} {k v : Int} (hl : l.ok) (hr : r.ok) (h3 : 3 * (l.n + 1) < r.n + 1) (hN : Near l.n r.n) : (litL l k v r).ok := by
  cases r with
  | nil => simp [n] at h3
  | node m fk fv s =>
    obtain ⟨⟨b1, b2⟩, hm, hs⟩ := hr
    simp only [n] at h3
    unfold Near at hN; simp only [n] at hN
    rw [litL]
    split
    · rename_i hc
      rcases hc with hc | hc
      · have := n0 hc; subst this
        simp only [n] at *
        exact ⟨by simp only [n]; constructor <;> omega, ⟨by simp only [n]; constructor <;> omega, hl, hm⟩, hs⟩
      · exact ⟨by simp only [n]; constructor <;> omega, ⟨hc.1, hl, hm⟩, hs⟩
    · rename_i hc
      cases m with
      | nil => simp [n] at hc
      | node x gk gv y =>
        obtain ⟨⟨c1, c2⟩, hx, hy⟩ := hm
        simp only [n] at *
        refine ⟨?_, ⟨?_, hl, hx⟩, ⟨?_, hy, hs⟩⟩ <;> (try simp only [n]) <;> constructor <;> omega
theorem litR_ok {l r : Tr} {k v : Int} (hl : l.ok) (hr : r.ok) (h3 : 3 * (r.n + 1) < l.n + 1) (hN : Near r.n l.n) : (litR r k v l).ok := by
  cases l with
  | nil => simp [n] at h3
  | node s fk fv m =>
    obtain ⟨⟨b1, b2⟩, hs, hm⟩ := hl
    simp only [n] at h3
    unfold Near at hN; simp only [n] at hN
    rw [litR]
    split
    · rename_i hc
      rcases hc with hc | hc
      · have := n0 hc; subst this
        simp only [n] at *
        exact ⟨by simp only [n]; constructor <;> omega, hs, ⟨by simp only [n]; constructor <;> omega, hm, hr⟩⟩
      · exact ⟨by simp only [n]; constructor <;> omega, hs, ⟨hc.1, hm, hr⟩⟩
    · rename_i hc
      cases m with
      | nil => simp [n] at hc
      | node x gk gv y =>
        obtain ⟨⟨c1, c2⟩, hx, hy⟩ := hm
        simp only [n] at *
        refine ⟨?_, ⟨?_, hs, hx⟩, ⟨?_, hy, hr⟩⟩ <;> (try simp only [n]) <;> constructor <;> omega
theorem bal_ok {l r : Tr} {k v : Int} (hl : l.ok) (hr : r.ok) (hN : Near l.n r.n) (hM : Near r.n l.n) : (bal l k v r).ok := by
  unfold bal
  split
  · rename_i h; exact ⟨h, hl, hr⟩
  · split
    · exact litL_ok hl hr (by omega) hN
    · exact litR_ok hl hr (by omega) hM
theorem join_n (l : Tr) (k v : Int) (r : Tr) : (join l k v r).n = l.n + r.n + 1 ∧ (join l k v r).ls = l.ls ++ (k, v) :: r.ls := by
  fun_induction join l k v r
  case case1 => exact ⟨rfl, rfl⟩
  case case2 => exact ⟨rfl, rfl⟩
  case case3 k v m fk fv s h ih =>
    refine ⟨?_, ?_⟩
    · rw [(bal_n _ _ _ _).1, ih.1]; simp only [n]; omega
    · rw [(bal_n _ _ _ _).2, ih.2]; simp [ls]
  case case4 => exact ⟨rfl, rfl⟩
  case case5 s fk fv m k v h ih =>
    refine ⟨?_, ?_⟩
    · rw [(bal_n _ _ _ _).1, ih.1]; simp only [n]; omega
    · rw [(bal_n _ _ _ _).2, ih.2]; simp [ls]
  case case6 => exact ⟨rfl, rfl⟩
  case case7 s fk fv m k v m' fk' fv' s' h1 h2 ih =>
    refine ⟨?_, ?_⟩
    · rw [(bal_n _ _ _ _).1, ih.1]; simp only [n]; omega
    · rw [(bal_n _ _ _ _).2, ih.2]; simp [ls]
  case case8 s fk fv m k v m' fk' fv' s' h1 h2 ih =>
    refine ⟨?_, ?_⟩
    · rw [(bal_n _ _ _ _).1, ih.1]; simp only [n]; omega
    · rw [(bal_n _ _ _ _).2, ih.2]; simp [ls]
theorem join_ok {l r : Tr} {k v : Int} (hl : l.ok) (hr : r.ok) : (join l k v r).ok := by
  fun_induction join l k v r
  case case1 => exact ⟨by simp [n], trivial, trivial⟩
  case case2 h => exact ⟨h, hl, hr⟩
  case case3 k v m fk fv s h ih =>
    obtain ⟨⟨b1, b2⟩, hm, hs⟩ := hr
    have hn := (join_n nil k v m).1
    simp only [n] at hn
    refine bal_ok (ih hl hm) hs ?_ ?_ <;> unfold Near <;> rw [hn] <;> omega
  case case4 h => exact ⟨h, hl, hr⟩
  case case5 s fk fv m k v h ih =>
    obtain ⟨⟨b1, b2⟩, hs, hm⟩ := hl
    have hn := (join_n m k v nil).1
    simp only [n] at hn
    refine bal_ok hs (ih hm hr) ?_ ?_ <;> unfold Near <;> rw [hn] <;> omega
  case case6 h => exact ⟨h, hl, hr⟩
  case case7 s fk fv m k v m' fk' fv' s' h1 h2 ih =>
    obtain ⟨⟨b1, b2⟩, hs, hm⟩ := hl
    have hn := (join_n m k v (node m' fk' fv' s')).1
    simp only [n] at hn
    refine bal_ok hs (ih hm hr) ?_ ?_ <;> unfold Near <;> rw [hn] <;> omega
  case case8 s fk fv m k v m' fk' fv' s' h1 h2 ih =>
    obtain ⟨⟨b1, b2⟩, hm, hs⟩ := hr
    have hn := (join_n (node s fk fv m) k v m').1
    simp only [n] at hn
    refine bal_ok (ih hl hm) hs ?_ ?_ <;> unfold Near <;> rw [hn] <;> omega
theorem jc_bal {l r : Tr} (h : Bal l.n r.n) : jc l r = 1 := by
  cases l with
  | nil =>
    cases r with
    | nil => simp [jc]
    | node m a b s => rw [jc, if_pos (by simpa [n] using h)]
  | node s a b m =>
    cases r with
    | nil => rw [jc, if_pos (by simpa [n] using h)]
    | node m' a' b' s' => rw [jc, if_pos (by simpa [n] using h)]
theorem jc_near {l r : Tr} (hl : l.ok) (hr : r.ok) (h1 : l.n + 1 ≤ 3 * (r.n + 1) + 1 ∨ (l.n + 1 ≤ 3 * (r.n + 1) + 3 ∧ 1 ≤ r.n)) (h2 : r.n + 1 ≤ 3 * (l.n + 1) + 1 ∨ (r.n + 1 ≤ 3 * (l.n + 1) + 3 ∧ 1 ≤ l.n)) : jc l r ≤ 4 := by
  cases l with
  | nil =>
    cases r with
    | nil => simp [jc]
    | node m a b s =>
      rw [jc]
      obtain ⟨⟨b1, b2⟩, hm, hs⟩ := hr
      simp only [n] at h2
      split
      · omega
      · rw [jc_bal (by simp only [n]; constructor <;> omega)]; omega
  | node s a b m =>
    obtain ⟨⟨b1, b2⟩, hs, hm⟩ := hl
    cases r with
    | nil =>
      rw [jc]
      simp only [n] at h1
      split
      · omega
      · rw [jc_bal (by simp only [n]; constructor <;> omega)]; omega
    | node m' a' b' s' =>
      obtain ⟨⟨c1, c2⟩, hm', hs'⟩ := hr
      simp only [n] at h1 h2
      rw [jc]
      split
      · omega
      · split
        · rw [jc_bal (by simp only [n]; constructor <;> omega)]; omega
        · rw [jc_bal (by simp only [n]; constructor <;> omega)]; omega
def ins (k v : Int) : Tr → Tr
  | nil => node nil k v nil
  | node l x y r => if k < x then join (ins k v l) x y r else if x < k then join l x y (ins k v r) else node l k v r
def ic (k v : Int) : Tr → Nat
  | nil => 1
  | node l x _ r => if k < x then ic k v l + jc (ins k v l) r else if x < k then ic k v r + jc l (ins k v r) else 1
def has (k : Int) : Tr → Bool
  | nil => false
  | node l x _ r => if k < x then l.has k else if x < k then r.has k else true
theorem ins_n (k v : Int) : ∀ t : Tr, (ins k v t).n = t.n + (if t.has k then 0 else 1)
  | nil => by simp [ins, has, n]
  | node l x y r => by
    unfold ins has
    split
    · rw [(join_n _ _ _ _).1, ins_n k v l]; simp only [n]; omega
    · split
      · rw [(join_n _ _ _ _).1, ins_n k v r]; simp only [n]; omega
      · simp [n]
theorem ins_ok (k v : Int) : ∀ t : Tr, t.ok → (ins k v t).ok
  | nil, _ => ⟨by simp [n], trivial, trivial⟩
  | node l x y r, h => by
    unfold ins
    split
    · exact join_ok (ins_ok k v l h.2.1) h.2.2
    · split
      · exact join_ok h.2.1 (ins_ok k v r h.2.2)
      · exact h
theorem ic_le (k v : Int) : ∀ t : Tr, t.ok → ic k v t ≤ 4 * t.ht + 1
  | nil, _ => by simp [ic, ht]
  | node l x y r, h => by
    obtain ⟨⟨b1, b2⟩, hl, hr⟩ := h
    unfold ic
    have el := ins_n k v l
    have er := ins_n k v r
    simp only [ht]
    split
    · have h1 := ic_le k v l hl
      have h2 := jc_near (ins_ok k v l hl) hr (by split at el <;> omega) (by split at el <;> omega)
      omega
    · split
      · have h1 := ic_le k v r hr
        have h2 := jc_near hl (ins_ok k v r hr) (by split at er <;> omega) (by split at er <;> omega)
        omega
      · omega
def pop : Tr → Tr × Int × Int
  | nil => (nil, 0, 0)
  | node l k v nil => (l, k, v)
  | node l k v (node a b c d) => (join l k v (pop (node a b c d)).1, (pop (node a b c d)).2)
def pc : Tr → Nat
  | nil => 0
  | node _ _ _ nil => 0
  | node l _ _ (node a b c d) => pc (node a b c d) + jc l (pop (node a b c d)).1
theorem pop_n : ∀ t : Tr, t ≠ nil → (pop t).1.n + 1 = t.n ∧ (pop t).1.ls ++ [(pop t).2] = t.ls
  | nil, h => absurd rfl h
  | node l k v nil, _ => by simp [pop, n, ls]
  | node l k v (node a b c d), _ => by
    have ih := pop_n (node a b c d) (by simp)
    unfold pop
    simp only
    refine ⟨?_, ?_⟩
    · rw [(join_n _ _ _ _).1]; rw [n]; omega
    · rw [(join_n _ _ _ _).2, ls.eq_2 l, ← ih.2]; simp
def cat (l r : Tr) : Tr := match l, r with
  | nil, r => r
  | l, nil => l
  | l, r => join (pop l).1 (pop l).2.1 (pop l).2.2 r
def cc (l r : Tr) : Nat := match l, r with
  | nil, _ => 0
  | _, nil => 0
  | l, r => pc l + jc (pop l).1 r
theorem cat_n (l r : Tr) : (cat l r).n = l.n + r.n ∧ (cat l r).ls = l.ls ++ r.ls := by
  cases l with
  | nil => simp [cat, n, ls]
  | node a b c d =>
    cases r with
    | nil => simp [cat, n, ls]
    | node a' b' c' d' =>
      have h := pop_n (node a b c d) (by simp)
      unfold cat
      refine ⟨?_, ?_⟩
      · rw [(join_n _ _ _ _).1]; omega
      · rw [(join_n _ _ _ _).2, ← h.2]; simp
def del (k : Int) : Tr → Tr
  | nil => nil
  | node l x y r => if k < x then join (del k l) x y r else if x < k then join l x y (del k r) else cat l r
def dc (k : Int) : Tr → Nat
  | nil => 0
  | node l x _ r => if k < x then dc k l + jc (del k l) r else if x < k then dc k r + jc l (del k r) else cc l r
theorem del_n (k : Int) : ∀ t : Tr, (del k t).n + (if t.has k then 1 else 0) = t.n
  | nil => by simp [del, has, n]
  | node l x y r => by
    unfold del has
    split
    · have := del_n k l; rw [(join_n _ _ _ _).1]; simp only [n]; omega
    · split
      · have := del_n k r; rw [(join_n _ _ _ _).1]; simp only [n]; omega
      · rw [(cat_n _ _).1]; simp [n]
def wt : Nat → Nat
  | 0 => 1
  | h + 1 => wt h + (wt h + 2) / 3
theorem wt_ht : ∀ t : Tr, t.ok → wt t.ht ≤ t.n + 1
  | nil, _ => by simp [wt, ht, n]
  | node l k v r, h => by
    obtain ⟨⟨b1, b2⟩, hl, hr⟩ := h
    have h1 := wt_ht l hl
    have h2 := wt_ht r hr
    simp only [ht, n]
    rcases Nat.le_total l.ht r.ht with e | e
    · rw [Nat.max_eq_right e, wt]; omega
    · rw [Nat.max_eq_left e, wt]; omega
theorem wt_mono {a b : Nat} (h : a ≤ b) : wt a ≤ wt b := by
  induction h with
  | refl => exact Nat.le_refl _
  | step h ih => rw [wt]; omega
end Tr
end Go.V
namespace Go.V
open Go
abbrev Kvs := List (Int × Int)
def Srt (l : Kvs) : Prop := l.Pairwise fun a b => a.1 < b.1
def lins (k v : Int) (l : Kvs) : Kvs := l.filter (fun x => decide (x.1 < k)) ++ (k, v) :: l.filter (fun x => decide (k < x.1))
def lget (k : Int) (l : Kvs) : Option Int := (l.find? fun x => decide (x.1 = k)).map (·.2)
theorem Srt.app {a b : Kvs} (h : Srt (a ++ b)) : Srt a ∧ Srt b ∧ ∀ x ∈ a, ∀ y ∈ b, x.1 < y.1 := by
  obtain ⟨h1, h2, h3⟩ := List.pairwise_append.1 h
  exact ⟨h1, h2, h3⟩
theorem filter_all {p : Int × Int → Bool} {l : Kvs} (h : ∀ x ∈ l, p x = true) : l.filter p = l := List.filter_eq_self.2 h
theorem filter_no {p : Int × Int → Bool} {l : Kvs} (h : ∀ x ∈ l, p x = false) : l.filter p = [] := List.filter_eq_nil_iff.2 fun x hx => by rw [h x hx]; decide
namespace Tr
def get (k : Int) : Tr → Option Int
  | nil => none
  | node l x y r => if k < x then get k l else if x < k then get k r else some y
theorem srt_node {l r : Tr} {k v : Int} (h : Srt (node l k v r).ls) : Srt l.ls ∧ Srt r.ls ∧ (∀ x ∈ l.ls, x.1 < k) ∧ ∀ x ∈ r.ls, k < x.1 := by
  obtain ⟨h1, h2, h3⟩ := Srt.app h
  obtain ⟨h4, h5⟩ := List.pairwise_cons.1 h2
  exact ⟨h1, h5, fun x hx => h3 x hx _ (List.mem_cons_self ..), h4⟩
theorem get_ls (k : Int) : ∀ t : Tr, Srt t.ls → get k t = lget k t.ls
  | nil, _ => rfl
  | node l x y r, h => by
    obtain ⟨h1, h2, h3, h4⟩ := srt_node h
    unfold get ls lget
    rw [List.find?_append, List.find?_cons]
    split
    · rename_i hlt
      rw [get_ls k l h1, decide_eq_false (show ¬ x = k by omega)]
      have : r.ls.find? (fun x => decide (x.1 = k)) = none := List.find?_eq_none.2 fun z hz e => by
        have := h4 z hz; have := of_decide_eq_true e; omega
      simp only [this, Option.or_none]; rfl
    · rename_i hlt
      have e1 : l.ls.find? (fun x => decide (x.1 = k)) = none := List.find?_eq_none.2 fun z hz e => by
        have := h3 z hz; have := of_decide_eq_true e; omega
      rw [e1, Option.none_or]
      split
      · rename_i hgt
        rw [get_ls k r h2, decide_eq_false (show ¬ x = k by omega)]; rfl
      · rw [decide_eq_true (show x = k by omega)]; rfl
theorem ins_ls (k v : Int) : ∀ t : Tr, Srt t.ls → (ins k v t).ls = lins k v t.ls
  | nil, _ => rfl
  | node l x y r, h => by
    obtain ⟨h1, h2, h3, h4⟩ := srt_node h
    unfold ins lins
    rw [show (node l x y r).ls = l.ls ++ (x, y) :: r.ls from rfl, List.filter_append, List.filter_append]
    split
    · rename_i hlt
      rw [(join_n _ _ _ _).2, ins_ls k v l h1, List.filter_cons_of_neg (by simp; omega), List.filter_cons_of_pos (by simp; omega)]
      rw [filter_no (p := fun x => decide (x.1 < k)) (l := r.ls) fun z hz => decide_eq_false (by have := h4 z hz; omega), filter_all (p := fun x => decide (k < x.1)) (l := r.ls) fun z hz => decide_eq_true (by have := h4 z hz; omega)]
      unfold lins; simp
    · split
      · rename_i hgt
        rw [(join_n _ _ _ _).2, ins_ls k v r h2, List.filter_cons_of_pos (by simp; omega), List.filter_cons_of_neg (by simp; omega)]
        rw [filter_all (p := fun x => decide (x.1 < k)) (l := l.ls) fun z hz => decide_eq_true (by have := h3 z hz; omega), filter_no (p := fun x => decide (k < x.1)) (l := l.ls) fun z hz => decide_eq_false (by have := h3 z hz; omega)]
        unfold lins; simp
      · have e : x = k := by omega
        subst e
        rw [List.filter_cons_of_neg (by simp), List.filter_cons_of_neg (by simp)]
        rw [filter_all (p := fun z => decide (z.1 < x)) (l := l.ls) fun z hz => decide_eq_true (h3 z hz), filter_no (p := fun z => decide (x < z.1)) (l := l.ls) fun z hz => decide_eq_false (by have := h3 z hz; omega)]
        rw [filter_no (p := fun z => decide (z.1 < x)) (l := r.ls) fun z hz => decide_eq_false (by have := h4 z hz; omega), filter_all (p := fun z => decide (x < z.1)) (l := r.ls) fun z hz => decide_eq_true (h4 z hz)]
        simp [ls]
theorem join_same {l r : Tr} {k v : Int} (h : Bal l.n r.n) : join l k v r = node l k v r := by
  cases l with
  | nil =>
    cases r with
    | nil => rw [join]
    | node m a b s => rw [join, if_pos (by simpa [n] using h)]
  | node s a b m =>
    cases r with
    | nil => rw [join, if_pos (by simpa [n] using h)]
    | node m' a' b' s' => rw [join, if_pos (by simpa [n] using h)]
theorem ins_same (k v : Int) : ∀ t : Tr, t.ok → get k t = some v → ins k v t = t
  | nil, _, h => by cases h
  | node l x y r, h, hg => by
    obtain ⟨hb, hl, hr⟩ := h
    unfold get at hg
    unfold ins
    split at hg
    · rename_i hlt
      rw [if_pos hlt, ins_same k v l hl hg, join_same hb]
    · rename_i hlt
      split at hg
      · rename_i hgt
        rw [if_neg hlt, if_pos hgt, ins_same k v r hr hg, join_same hb]
      · rename_i hgt
        rw [if_neg hlt, if_neg hgt]
        simp only [Option.some.injEq] at hg
        rw [hg, show x = k by omega]
def mxA (keys : Nat) : Nat → Nat → Nat
  | 0, h => h
  | f + 1, h => if keys + 1 < wt (h + 1) then h else mxA keys f (h + 1)
def mxH (keys : Nat) : Nat := mxA keys 80 0
theorem mxA_ge (keys : Nat) : ∀ f h, h ≤ mxA keys f h ∧ mxA keys f h ≤ h + f
  | 0, h => by simp [mxA]
  | f + 1, h => by
    unfold mxA
    split
    · omega
    · have := mxA_ge keys f (h + 1); omega
theorem mxA_le (keys : Nat) : ∀ f h j, j ≤ h + f → wt j ≤ keys + 1 → h ≤ j → j ≤ mxA keys f h
  | 0, h, j, h1, _, _ => by unfold mxA; omega
  | f + 1, h, j, h1, h2, h3 => by
    unfold mxA
    split
    · rename_i hlt
      rcases Nat.lt_or_ge h j with h4 | h4
      · have := wt_mono (a := h + 1) (b := j) h4; omega
      · omega
    · rcases Nat.lt_or_ge h j with h4 | h4
      · exact mxA_le keys f (h + 1) j (by omega) h2 h4
      · have := (mxA_ge keys f (h + 1)).1; omega
theorem wt_pow : ∀ h : Nat, 4 ^ h ≤ wt h * 3 ^ h
  | 0 => by simp [wt]
  | h + 1 => by
    have ih := wt_pow h
    have h1 : 4 * wt h ≤ 3 * wt (h + 1) := by rw [wt]; omega
    calc 4 ^ (h + 1) = 4 * 4 ^ h := by rw [Nat.pow_succ, Nat.mul_comm]
      _ ≤ 4 * (wt h * 3 ^ h) := Nat.mul_le_mul_left _ ih
      _ = (4 * wt h) * 3 ^ h := by rw [Nat.mul_assoc]
      _ ≤ (3 * wt (h + 1)) * 3 ^ h := Nat.mul_le_mul_right _ h1
      _ = wt (h + 1) * 3 ^ (h + 1) := by rw [Nat.pow_succ, Nat.mul_comm 3 (wt (h + 1)), Nat.mul_assoc, Nat.mul_comm 3]
theorem wt_81 : 2147483648 < wt 81 := by
  have h := wt_pow 81
  rcases Nat.lt_or_ge 2147483648 (wt 81) with h1 | h1
  · exact h1
  · have h2 : wt 81 * 3 ^ 81 ≤ 2147483648 * 3 ^ 81 := Nat.mul_le_mul_right _ h1
    have h3 : 2147483648 * 3 ^ 81 < 4 ^ 81 := by decide
    omega
theorem ht_le (t : Tr) (h : t.ok) (hn : t.n ≤ 2147483647) : t.ht ≤ mxH t.n := by
  have h1 := wt_ht t h
  refine mxA_le t.n 80 0 t.ht ?_ h1 (Nat.zero_le _)
  rcases Nat.lt_or_ge 80 t.ht with h2 | h2
  · have := wt_mono (a := 81) (b := t.ht) h2
    have := wt_81
    omega
  · omega
theorem mxA_mono {a b : Nat} (hab : a ≤ b) : ∀ f h, mxA a f h ≤ mxA b f h
  | 0, h => by simp [mxA]
  | f + 1, h => by
    unfold mxA
    split
    · split
      · exact Nat.le_refl _
      · have := (mxA_ge b f (h + 1)).1; omega
    · rw [if_neg (by omega)]; exact mxA_mono hab f (h + 1)
theorem mxH_mono {a b : Nat} (h : a ≤ b) : mxH a ≤ mxH b := mxA_mono h 80 0
theorem mxH_le (a : Nat) : mxH a ≤ 80 := by have := (mxA_ge a 80 0).2; unfold mxH; omega
theorem ic_res (k v : Int) (t : Tr) (h : t.ok) (hn : t.n ≤ 2147483646) : ic k v t ≤ 4 * (mxH (t.n + 1) + 2) := by
  have h1 := ic_le k v t h
  have h2 := ht_le t h (by omega)
  have h3 := mxH_mono (a := t.n) (b := t.n + 1) (by omega)
  omega
end Tr
end Go.V
namespace Go.V
open Go Go.RowKit
def AM.nd (A : AM) (i : Int) : Nd := (A.nodes[i.toNat]?).getD Nd.zero
def AM.live (A : AM) : List Int := ((List.range A.s.used.length).map fun i : Nat => (i : Int)).filter fun i => A.s.ok i
def AM.kids (A : AM) : List Int := A.live.flatMap fun i => [(A.nd i).lf, (A.nd i).rg]
def AM.sz (A : AM) (i : Int) : Int := if A.s.ok i = true then (A.nd i).size else 0
structure ARf (A : AM) (R : List Int) : Prop extends AWf A where
  kid : ∀ i, A.s.ok i = true → 0 ≤ i → ∀ c, c = (A.nd i).lf ∨ c = (A.nd i).rg → c = 0 ∨ (1 ≤ c ∧ A.s.ok c = true)
  sz : ∀ i, A.s.ok i = true → 0 ≤ i → (A.nd i).size = 1 + A.sz (A.nd i).lf + A.sz (A.nd i).rg ∧ (A.nd i).size ≤ 2147483647
  pos : ∀ i, A.s.ok i = true → 0 ≤ i → 1 ≤ (A.nd i).size
  ref : ∀ r ∈ R, r = 0 ∨ (1 ≤ r ∧ A.s.ok r = true)
  cnt : ∀ i, A.s.ok i = true → 0 ≤ i → A.cntOf i = ((R ++ A.kids).count i : Nat) ∧ 1 ≤ A.cntOf i
  zero : ∀ i, A.s.ok i = false → 1 ≤ i → A.nd i = Nd.zero
  len : R.length ≤ 1000000000
theorem AM.mem_live {A : AM} (i : Int) : i ∈ A.live ↔ 0 ≤ i ∧ A.s.ok i = true := by
  unfold AM.live
  rw [List.mem_filter, List.mem_map]
  constructor
  · rintro ⟨⟨n, _, rfl⟩, h⟩; exact ⟨by omega, h⟩
  · rintro ⟨h0, h⟩
    exact ⟨⟨i.toNat, List.mem_range.2 (ok_getD h), by omega⟩, h⟩
theorem AM.live_nodup (A : AM) : A.live.Nodup := by
  unfold AM.live
  refine List.Pairwise.filter _ (List.pairwise_map.2 ?_)
  exact (List.nodup_range).imp fun h e => h (by omega)
theorem live_perm {A B : AM} {k : Int} (hk : A.s.ok k = true) (h0 : 0 ≤ k) (h : ∀ j, 0 ≤ j → B.s.ok j = if j = k then false else A.s.ok j) : A.live.Perm (k :: B.live) := by
  refine (List.perm_ext_iff_of_nodup A.live_nodup (List.nodup_cons.2 ⟨fun hm => ?_, B.live_nodup⟩)).2 fun j => ?_
  · have := ((B.mem_live k).1 hm).2
    rw [h k h0, if_pos rfl] at this; cases this
  · rw [A.mem_live, List.mem_cons, B.mem_live]
    constructor
    · rintro ⟨j0, j1⟩
      by_cases e : j = k
      · exact .inl e
      · exact .inr ⟨j0, by rw [h j j0, if_neg e]; exact j1⟩
    · rintro (rfl | ⟨j0, j1⟩)
      · exact ⟨h0, hk⟩
      · rw [h j j0] at j1
        split at j1
        · cases j1
        · exact ⟨j0, j1⟩
theorem fm_congr {α β : Type} {f g : α → List β} : ∀ {l : List α}, (∀ x ∈ l, f x = g x) → l.flatMap f = l.flatMap g
  | [], _ => rfl
  | x :: l, h => by rw [List.flatMap_cons, List.flatMap_cons, h x (List.mem_cons_self ..), fm_congr fun y hy => h y (List.mem_cons_of_mem _ hy)]
theorem kids_perm {A B : AM} {k : Int} (hk : A.s.ok k = true) (h0 : 0 ≤ k) (h : ∀ j, 0 ≤ j → B.s.ok j = if j = k then false else A.s.ok j) (hn : ∀ j, 0 ≤ j → j ≠ k → B.nd j = A.nd j) : A.kids.Perm ([(A.nd k).lf, (A.nd k).rg] ++ B.kids) := by
  have h1 := (live_perm hk h0 h).flatMap_right (fun i => [(A.nd i).lf, (A.nd i).rg])
  rw [List.flatMap_cons] at h1
  refine h1.trans (List.Perm.append_left _ (List.Perm.of_eq ?_))
  unfold AM.kids
  have hm : ∀ j ∈ B.live, [(A.nd j).lf, (A.nd j).rg] = [(B.nd j).lf, (B.nd j).rg] := fun j hj => by
    have hj2 := (B.mem_live j).1 hj
    have hne : j ≠ k := fun e => by subst e; have := hj2.2; rw [h j h0, if_pos rfl] at this; cases this
    rw [hn j hj2.1 hne]
  exact fm_congr hm
theorem AM.live_len (A : AM) : A.live.length ≤ A.s.used.length := by
  unfold AM.live
  exact Nat.le_trans (List.length_filter_le _ _) (by simp)
theorem AM.kids_len (A : AM) : A.kids.length = 2 * A.live.length := by
  unfold AM.kids
  induction A.live with
  | nil => rfl
  | cons x l ih => rw [List.flatMap_cons, List.length_append, ih]; simp; omega
theorem AM.mem_kids {A : AM} (c : Int) : c ∈ A.kids ↔ ∃ i, 0 ≤ i ∧ A.s.ok i = true ∧ (c = (A.nd i).lf ∨ c = (A.nd i).rg) := by
  unfold AM.kids
  rw [List.mem_flatMap]
  constructor
  · rintro ⟨i, hi, hc⟩
    have := (A.mem_live i).1 hi
    exact ⟨i, this.1, this.2, by simpa using hc⟩
  · rintro ⟨i, h0, h1, hc⟩
    exact ⟨i, (A.mem_live i).2 ⟨h0, h1⟩, by simpa using hc⟩
theorem ARf.perm {A : AM} {R R' : List Int} (h : ARf A R) (hp : R.Perm R') : ARf A R' :=
  ⟨h.toAWf, h.kid, h.sz, h.pos, fun r hr => h.ref r (hp.mem_iff.2 hr), fun i hi h0 => by
    rw [← (List.Perm.append_right A.kids hp).count_eq i]; exact h.cnt i hi h0, h.zero, by rw [← hp.length_eq]; exact h.len⟩
theorem ARf.cons0 {A : AM} {R : List Int} (h : ARf A R) (hl : R.length + 1 ≤ 1000000000) : ARf A (0 :: R) :=
  ⟨h.toAWf, h.kid, h.sz, h.pos, fun r hr => by
    rcases List.mem_cons.1 hr with rfl | hr
    · exact .inl rfl
    · exact h.ref r hr, fun i hi h0 => by
    have h1 := (SM.ok_rng h.s h0 hi).1
    rw [List.cons_append, List.count_cons_of_ne (by omega)]; exact h.cnt i hi h0, h.zero, by simpa using hl⟩
theorem ARf.tail0 {A : AM} {R : List Int} (h : ARf A (0 :: R)) : ARf A R :=
  ⟨h.toAWf, h.kid, h.sz, h.pos, fun r hr => h.ref r (List.mem_cons_of_mem _ hr), fun i hi h0 => by
    have h1 := (SM.ok_rng h.s h0 hi).1
    have h2 := h.cnt i hi h0
    rwa [List.cons_append, List.count_cons_of_ne (by omega)] at h2, h.zero, by have := h.len; simp at this; omega⟩
theorem ARf.cnt_le {A : AM} {R : List Int} (h : ARf A R) {i : Int} (hi : A.s.ok i = true) (h0 : 0 ≤ i) : 1 ≤ A.cntOf i ∧ A.cntOf i ≤ 2000000000 := by
  have h1 := h.cnt i hi h0
  have h2 := List.count_le_length (a := i) (l := R ++ A.kids)
  rw [List.length_append, A.kids_len] at h2
  have h3 := A.live_len
  have h4 := h.s.cap
  have h5 := h.len
  omega
theorem AM.cnt_set {A : AM} {s : SM} {n : List Nd} {k i x : Int} (hk : k.toNat < A.cnt.length) (h0 : 0 ≤ k) (hi : 0 ≤ i) : (AM.mk s n (A.cnt.set k.toNat x)).cntOf i = if i = k then x else A.cntOf i := by
  unfold AM.cntOf
  simp only
  rw [List.getElem?_set]
  by_cases h : i = k
  · subst h; rw [if_pos rfl, if_pos hk, if_pos rfl]; rfl
  · rw [if_neg (by omega), if_neg h]
theorem AM.nd_set {A : AM} {s : SM} {c : List Int} {k i : Int} {x : Nd} (hk : k.toNat < A.nodes.length) (h0 : 0 ≤ k) (hi : 0 ≤ i) : (AM.mk s (A.nodes.set k.toNat x) c).nd i = if i = k then x else A.nd i := by
  unfold AM.nd
  simp only
  rw [List.getElem?_set]
  by_cases h : i = k
  · subst h; rw [if_pos rfl, if_pos hk, if_pos rfl]; rfl
  · rw [if_neg (by omega), if_neg h]
theorem ARf.inc {A : AM} {R : List Int} {k : Int} (h : ARf A R) (hk : A.s.ok k = true) (h0 : 0 ≤ k) (hl : R.length + 1 ≤ 1000000000) : ARf (A.inc k) (k :: R) := by
  have hr := SM.ok_rng h.s h0 hk
  have hkl : k.toNat < A.cnt.length := by rw [h.cl]; exact hr.2.2.2
  have hb := h.cnt_le hk h0
  have hkids : (A.inc k).kids = A.kids := rfl
  refine ⟨h.toAWf.inc k, h.kid, h.sz, h.pos, fun r hr2 => ?_, fun i hi hi0 => ?_, h.zero, by simpa using hl⟩
  · rcases List.mem_cons.1 hr2 with rfl | hr2
    · exact .inr ⟨hr.1, hk⟩
    · exact h.ref r hr2
  · have hc := h.cnt i hi hi0
    rw [hkids, AM.inc, AM.cnt_set hkl h0 hi0]
    by_cases e : i = k
    · subst e
      rw [if_pos rfl, List.cons_append, List.count_cons_self, w64 (by omega)]
      omega
    · rw [if_neg e, List.cons_append, List.count_cons_of_ne (fun h => e h.symm)]; exact hc
theorem ARf.dec {A : AM} {R : List Int} {k : Int} (h : ARf A (k :: R)) (hk : A.s.ok k = true) (h0 : 0 ≤ k) (h1 : A.cntOf k ≠ 1) : ARf (A.dec k) R := by
  have hr := SM.ok_rng h.s h0 hk
  have hkl : k.toNat < A.cnt.length := by rw [h.cl]; exact hr.2.2.2
  have hb := h.cnt_le hk h0
  have hkids : (A.dec k).kids = A.kids := rfl
  refine ⟨⟨h.s, h.nl, by simpa [AM.dec] using h.cl⟩, h.kid, h.sz, h.pos, fun r hr2 => h.ref r (List.mem_cons_of_mem _ hr2), fun i hi hi0 => ?_, h.zero, by have := h.len; simp at this; omega⟩
  have hc := h.cnt i hi hi0
  rw [hkids, AM.dec, AM.cnt_set hkl h0 hi0]
  by_cases e : i = k
  · subst e
    rw [List.cons_append, List.count_cons_self] at hc
    rw [if_pos rfl, w64 (by omega)]
    omega
  · rw [List.cons_append, List.count_cons_of_ne (fun h => e h.symm)] at hc
    rw [if_neg e]; exact hc
def AM.freed (A : AM) (k : Int) : AM := ⟨A.s.release k, A.nodes.set k.toNat Nd.zero, A.cnt.set k.toNat (IntKind.i64.wrap (A.cntOf k - 1))⟩
theorem AM.freed_ok {A : AM} {k : Int} (h : SOk A.s) (hk : A.s.ok k = true) (h0 : 0 ≤ k) : ∀ j, 0 ≤ j → (A.freed k).s.ok j = if j = k then false else A.s.ok j := fun _ hj => SM.release_ok' h h0 hk hj
theorem ARf.free {A : AM} {R : List Int} {k : Int} (h : ARf A (k :: R)) (hk : A.s.ok k = true) (h0 : 0 ≤ k) (h1 : A.cntOf k = 1) (hl : R.length + 2 ≤ 1000000000) : ARf (A.freed k) ((A.nd k).lf :: (A.nd k).rg :: R) := by
  have hr := SM.ok_rng h.s h0 hk
  have hkl : k.toNat < A.cnt.length := by rw [h.cl]; exact hr.2.2.2
  have hkn : k.toNat < A.nodes.length := by rw [h.nl]; exact hr.2.2.2
  have hok := AM.freed_ok h.s hk h0
  have hnd : ∀ j, 0 ≤ j → j ≠ k → (A.freed k).nd j = A.nd j := fun j hj e => by
    unfold AM.freed; rw [AM.nd_set hkn h0 hj, if_neg e]
  have hkp := kids_perm hk h0 hok hnd
  have hck := (h.cnt k hk h0).1
  rw [h1, List.cons_append, List.count_cons_self] at hck
  have hc0 : (R ++ A.kids).count k = 0 := by omega
  rw [List.count_append] at hc0
  have hnR : k ∉ R := List.count_eq_zero.1 (by omega)
  have hnK : k ∉ A.kids := List.count_eq_zero.1 (by omega)
  have hkid : ∀ i, A.s.ok i = true → 0 ≤ i → ∀ c, c = (A.nd i).lf ∨ c = (A.nd i).rg → c = 0 ∨ (1 ≤ c ∧ (A.freed k).s.ok c = true) := fun i hi hi0 c hc => by
    rcases h.kid i hi hi0 c hc with e | ⟨c1, c2⟩
    · exact .inl e
    · refine .inr ⟨c1, ?_⟩
      have hne : c ≠ k := fun e => hnK ((A.mem_kids k).2 ⟨i, hi0, hi, by rw [← e]; exact hc⟩)
      rw [hok c (by omega), if_neg hne]; exact c2
  have hback : ∀ i, 0 ≤ i → (A.freed k).s.ok i = true → i ≠ k ∧ A.s.ok i = true := fun i hi0 hi => by
    rw [hok i hi0] at hi
    split at hi
    · cases hi
    · rename_i e; exact ⟨e, hi⟩
  have hsz : ∀ i, A.s.ok i = true → 0 ≤ i → ∀ c, c = (A.nd i).lf ∨ c = (A.nd i).rg → (A.freed k).sz c = A.sz c := fun i hi hi0 c hc => by
    rcases h.kid i hi hi0 c hc with e | ⟨c1, c2⟩
    · subst e
      unfold AM.sz
      have hu0 : A.s.ok 0 = false := h.s.u0
      rw [hok 0 (Int.le_refl _), if_neg (show ¬ (0 : Int) = k by omega), hu0]; rfl
    · have hne : c ≠ k := fun e => hnK ((A.mem_kids k).2 ⟨i, hi0, hi, by rw [← e]; exact hc⟩)
      unfold AM.sz
      rw [hok c (by omega), if_neg hne, hnd c (by omega) hne]
  refine ⟨⟨SM.release_sok h.s h0 hk, ?_, ?_⟩, fun i hi hi0 c hc => ?_, fun i hi hi0 => ?_, fun i hi hi0 => ?_, fun r hr2 => ?_, fun i hi hi0 => ?_, fun i hi hi1 => ?_, ?_⟩
  · show (A.nodes.set _ _).length = (A.s.used.set _ _).length
    rw [List.length_set, List.length_set]; exact h.nl
  · show (A.cnt.set _ _).length = (A.s.used.set _ _).length
    rw [List.length_set, List.length_set]; exact h.cl
  · obtain ⟨e, hi2⟩ := hback i hi0 hi
    rw [hnd i hi0 e] at hc
    exact hkid i hi2 hi0 c hc
  · obtain ⟨e, hi2⟩ := hback i hi0 hi
    rw [hnd i hi0 e, hsz i hi2 hi0 _ (.inl rfl), hsz i hi2 hi0 _ (.inr rfl)]
    exact h.sz i hi2 hi0
  · obtain ⟨e, hi2⟩ := hback i hi0 hi
    rw [hnd i hi0 e]; exact h.pos i hi2 hi0
  · simp only [List.mem_cons] at hr2
    rcases hr2 with e | e | hr2
    · exact hkid k hk h0 r (.inl e)
    · exact hkid k hk h0 r (.inr e)
    · rcases h.ref r (List.mem_cons_of_mem _ hr2) with e | ⟨r1, r2⟩
      · exact .inl e
      · have hne : r ≠ k := fun e => hnR (e ▸ hr2)
        exact .inr ⟨r1, by rw [hok r (by omega), if_neg hne]; exact r2⟩
  · obtain ⟨e, hi2⟩ := hback i hi0 hi
    have hc := h.cnt i hi2 hi0
    have he : (A.freed k).cntOf i = A.cntOf i := by unfold AM.freed; rw [AM.cnt_set hkl h0 hi0, if_neg e]
    rw [he]
    rw [List.cons_append, List.count_cons_of_ne (fun h => e h.symm)] at hc
    have hp : (R ++ A.kids).Perm ((A.nd k).lf :: (A.nd k).rg :: R ++ (A.freed k).kids) := by
      refine (List.Perm.append_left R hkp).trans ?_
      simp only [List.cons_append, List.nil_append]
      exact (List.perm_middle).trans ((List.Perm.cons _ List.perm_middle))
    rw [← hp.count_eq i]; exact hc
  · by_cases e : i = k
    · subst e
      unfold AM.freed
      rw [AM.nd_set hkn h0 h0, if_pos rfl]
    · have hi2 : A.s.ok i = false := by rw [hok i (by omega), if_neg e] at hi; exact hi
      rw [hnd i (by omega) e]; exact h.zero i hi2 hi1
  · simpa using hl
end Go.V
namespace Go.V
open Go Go.RowKit
def AM.put (A : AM) (n : Nd) : AM := ⟨A.s.alloc, A.nodes.set A.s.next.toNat n, A.cnt.set A.s.next.toNat 1⟩
def AM.make (A : AM) (n : Nd) : AM := ((A.put n).inc n.lf).inc n.rg
theorem AM.inc_cnt {A : AM} {k j : Int} (hk : k.toNat < A.cnt.length) (h0 : 0 ≤ k) (hj : 0 ≤ j) : (A.inc k).cntOf j = if j = k then IntKind.i64.wrap (A.cntOf k + 1) else A.cntOf j := AM.cnt_set hk h0 hj
theorem ARf.rng {A : AM} {R : List Int} (h : ARf A R) {r : Int} (hr : r ∈ R) : 0 ≤ r ∧ r < 4294967296 ∧ r ≤ 65536 := by
  rcases h.ref r hr with e | ⟨h1, h2⟩
  · omega
  · have h3 := SM.ok_rng h.s (by omega) h2
    have h4 := h.s.cap
    have h5 : A.s.cap = (A.s.used.length : Int) - 1 := rfl
    omega
theorem ARf.okrng {A : AM} {R : List Int} (h : ARf A R) {c : Int} (hc : c = 0 ∨ (1 ≤ c ∧ A.s.ok c = true)) : 0 ≤ c ∧ c ≤ 65536 ∧ c.toNat < A.s.used.length := by
  have h4 := h.s.cap
  have h5 : A.s.cap = (A.s.used.length : Int) - 1 := rfl
  rcases hc with e | ⟨h1, h2⟩
  · subst e; exact ⟨by omega, by omega, by show 0 < _; omega⟩
  · have h3 := SM.ok_rng h.s (by omega) h2
    omega
theorem ARf.make {A : AM} {R : List Int} {n : Nd} (h : ARf A R) (hf : 0 < A.s.free) (hl : n.lf = 0 ∨ (1 ≤ n.lf ∧ A.s.ok n.lf = true)) (hr : n.rg = 0 ∨ (1 ≤ n.rg ∧ A.s.ok n.rg = true))
    (hs : n.size = 1 + A.sz n.lf + A.sz n.rg ∧ n.size ≤ 2147483647) (hp : 1 ≤ n.size) (hlen : R.length + 1 ≤ 1000000000) : ARf (A.make n) (A.s.next :: R) := by
  have hn := SM.next_rng h.s hf
  have hno : A.s.ok A.s.next = false := hn.2.2.2
  have hok : ∀ j, 0 ≤ j → (A.make n).s.ok j = if j = A.s.next then true else A.s.ok j := fun j hj => SM.alloc_ok' h.s hf hj
  have hnl : A.s.next.toNat < A.nodes.length := by rw [h.nl]; exact hn.2.2.1
  have hcl : A.s.next.toNat < A.cnt.length := by rw [h.cl]; exact hn.2.2.1
  have hnd : ∀ j, 0 ≤ j → (A.make n).nd j = if j = A.s.next then n else A.nd j := fun j hj => AM.nd_set hnl (by omega) hj
  have hne : ∀ c, (c = 0 ∨ (1 ≤ c ∧ A.s.ok c = true)) → c ≠ A.s.next := fun c hc e => by
    rcases hc with e2 | ⟨_, h2⟩
    · omega
    · rw [e, hno] at h2; cases h2
  have hup : ∀ c, (c = 0 ∨ (1 ≤ c ∧ A.s.ok c = true)) → (c = 0 ∨ (1 ≤ c ∧ (A.make n).s.ok c = true)) := fun c hc => by
    have h1 := hne c hc
    rcases hc with e2 | ⟨h3, h2⟩
    · exact .inl e2
    · exact .inr ⟨h3, by rw [hok c (by omega), if_neg h1]; exact h2⟩
  have hsz : ∀ c, (c = 0 ∨ (1 ≤ c ∧ A.s.ok c = true)) → (A.make n).sz c = A.sz c := fun c hc => by
    have h1 := hne c hc
    have h0 : 0 ≤ c := by omega
    unfold AM.sz
    rw [hok c h0, if_neg h1, hnd c h0, if_neg h1]
  have hkp : (A.make n).kids.Perm ([n.lf, n.rg] ++ A.kids) := by
    have h1 := kids_perm (A := A.make n) (B := A) (k := A.s.next) (by rw [hok _ (by omega), if_pos rfl]) (by omega) (fun j hj => by
      rw [hok j hj]
      by_cases e : j = A.s.next
      · subst e; rw [if_pos rfl]; exact hno
      · rw [if_neg e, if_neg e]) (fun j hj e => by rw [hnd j hj, if_neg e])
    rw [hnd _ (by omega), if_pos rfl] at h1
    exact h1
  have hlr := h.okrng hl
  have hrr := h.okrng hr
  have hcnt : ∀ j, 1 ≤ j → (j = A.s.next ∨ A.s.ok j = true) → (A.make n).cntOf j = if j = A.s.next then 1 else A.cntOf j + (if j = n.lf then 1 else 0) + (if j = n.rg then 1 else 0) := fun j hj hjo => by
    have hpl : (A.put n).cnt.length = A.cnt.length := by simp [AM.put]
    have hpl2 : ((A.put n).inc n.lf).cnt.length = A.cnt.length := by simp [AM.inc, AM.put]
    have e1 : (A.make n).cntOf j = if j = n.rg then IntKind.i64.wrap (((A.put n).inc n.lf).cntOf n.rg + 1) else ((A.put n).inc n.lf).cntOf j := AM.inc_cnt (by rw [hpl2, h.cl]; exact hrr.2.2) hrr.1 (by omega)
    have e2 : ∀ x, 0 ≤ x → ((A.put n).inc n.lf).cntOf x = if x = n.lf then IntKind.i64.wrap ((A.put n).cntOf n.lf + 1) else (A.put n).cntOf x := fun x hx => AM.inc_cnt (by rw [hpl, h.cl]; exact hlr.2.2) hlr.1 hx
    have e3 : ∀ x, 0 ≤ x → (A.put n).cntOf x = if x = A.s.next then 1 else A.cntOf x := fun x hx => AM.cnt_set hcl (by omega) hx
    by_cases hj2 : j = A.s.next
    · rw [if_pos hj2, e1, if_neg (fun e => hne _ hr (by rw [← e]; exact hj2)), e2 j (by omega), if_neg (fun e => hne _ hl (by rw [← e]; exact hj2)), e3 j (by omega), if_pos hj2]
    · have hjo := hjo.resolve_left hj2
      have hb := h.cnt_le hjo (by omega)
      rw [if_neg hj2, e1]
      have e4 : ((A.put n).inc n.lf).cntOf j = A.cntOf j + (if j = n.lf then 1 else 0) := by
        rw [e2 j (by omega)]
        by_cases e : j = n.lf
        · rw [if_pos e, if_pos e, ← e, e3 j (by omega), if_neg hj2, w64 (by omega)]
        · rw [if_neg e, if_neg e, e3 j (by omega), if_neg hj2]; omega
      by_cases e : j = n.rg
      · rw [if_pos e, if_pos e, ← e, e4, w64 (by split <;> omega)]
      · rw [if_neg e, if_neg e, e4]; omega
  refine ⟨⟨SM.alloc_sok h.s hf, ?_, ?_⟩, fun i hi hi0 c hc => ?_, fun i hi hi0 => ?_, fun i hi hi0 => ?_, fun r hr2 => ?_, fun i hi hi0 => ?_, fun i hi hi1 => ?_, by simpa using hlen⟩
  · show (A.nodes.set _ _).length = (A.s.used.set _ _).length
    rw [List.length_set, List.length_set]; exact h.nl
  · show (((A.cnt.set _ _).set _ _).set _ _).length = (A.s.used.set _ _).length
    rw [List.length_set, List.length_set, List.length_set, List.length_set]; exact h.cl
  · rw [hnd i hi0] at hc
    by_cases e : i = A.s.next
    · rw [if_pos e] at hc
      rcases hc with hc | hc <;> rw [hc]
      · exact hup _ hl
      · exact hup _ hr
    · rw [if_neg e] at hc
      rw [hok i hi0, if_neg e] at hi
      exact hup _ (h.kid i hi hi0 c hc)
  · rw [hnd i hi0]
    by_cases e : i = A.s.next
    · rw [if_pos e, hsz _ hl, hsz _ hr]; exact hs
    · rw [if_neg e]
      rw [hok i hi0, if_neg e] at hi
      rw [hsz _ (h.kid i hi hi0 _ (.inl rfl)), hsz _ (h.kid i hi hi0 _ (.inr rfl))]
      exact h.sz i hi hi0
  · rw [hnd i hi0]
    by_cases e : i = A.s.next
    · rw [if_pos e]; exact hp
    · rw [if_neg e]
      rw [hok i hi0, if_neg e] at hi
      exact h.pos i hi hi0
  · rcases List.mem_cons.1 hr2 with e | hr2
    · rw [e]; exact .inr ⟨hn.1, by rw [hok _ (by omega), if_pos rfl]⟩
    · exact hup _ (h.ref r hr2)
  · have h1 : 1 ≤ i := by
      rcases Int.lt_or_le i 1 with h1 | h1
      · have : i = 0 := by omega
        subst this
        rw [hok 0 (by omega), if_neg (by omega), h.s.u0] at hi; cases hi
      · exact h1
    rw [hok i hi0] at hi
    have hp2 : (A.s.next :: R ++ (A.make n).kids).count i = (A.s.next :: (R ++ ([n.lf, n.rg] ++ A.kids))).count i := by
      rw [List.cons_append]
      exact (List.Perm.cons _ (List.Perm.append_left R hkp)).count_eq i
    rw [hp2]
    by_cases e : i = A.s.next
    · rw [hcnt i h1 (.inl e), if_pos e, e, List.count_cons_self, List.count_append, List.count_append]
      have c1 : R.count A.s.next = 0 := List.count_eq_zero.2 fun hm => hne _ (h.ref _ hm) rfl
      have c2 : [n.lf, n.rg].count A.s.next = 0 := List.count_eq_zero.2 fun hm => by
        rcases List.mem_cons.1 hm with e2 | hm
        · exact hne _ hl e2.symm
        · exact hne _ hr (List.mem_singleton.1 hm).symm
      have c3 : A.kids.count A.s.next = 0 := List.count_eq_zero.2 fun hm => by
        obtain ⟨j, j0, j1, jc⟩ := (A.mem_kids _).1 hm
        exact hne _ (h.kid j j1 j0 _ jc) rfl
      omega
    · rw [if_neg e] at hi
      have hc2 := h.cnt i hi hi0
      have hb := h.cnt_le hi hi0
      rw [List.count_append] at hc2
      rw [hcnt i h1 (.inr hi), if_neg e, List.count_cons_of_ne (fun h => e h.symm), List.count_append, List.count_append]
      have c2 : ([n.lf, n.rg].count i : Nat) = (if i = n.lf then 1 else 0) + (if i = n.rg then 1 else 0) := by
        rw [List.count_cons, List.count_cons, List.count_nil]
        have q1 : (n.lf == i) = decide (i = n.lf) := by rw [Bool.eq_iff_iff, beq_iff_eq, decide_eq_true_eq]; exact ⟨Eq.symm, Eq.symm⟩
        have q2 : (n.rg == i) = decide (i = n.rg) := by rw [Bool.eq_iff_iff, beq_iff_eq, decide_eq_true_eq]; exact ⟨Eq.symm, Eq.symm⟩
        rw [q1, q2]
        simp only [decide_eq_true_eq]
        omega
      rw [c2]
      split <;> split <;> omega
  · rw [hnd i (by omega)]
    rw [hok i (by omega)] at hi
    by_cases e : i = A.s.next
    · rw [if_pos e] at hi; cases hi
    · rw [if_neg e] at hi ⊢
      exact h.zero i hi hi1
theorem SOk.free_rng {S : SM} (h : SOk S) : 0 ≤ S.free ∧ S.free ≤ 131072 := by
  have h1 := h.rle; have h2 := h.cap; have h3 := h.fr; have h4 : S.cap = (S.used.length : Int) - 1 := rfl
  unfold SM.free; omega
theorem AM.cnt_live {A : AM} (h : SOk A.s) : A.s.free + A.live.length = A.s.cap := by
  have hc : A.s.cap = (A.s.used.length : Int) - 1 := rfl
  have hcp := h.cap
  have hfr := h.fr
  have hp : ((List.range A.s.cap.toNat).map fun i : Nat => (i : Int) + 1).Perm (A.live ++ (A.s.rel ++ (List.range (A.s.cap - A.s.fresh).toNat).map fun i : Nat => A.s.fresh + 1 + (i : Int))) := by
    refine (List.perm_ext_iff_of_nodup ?_ ?_).2 fun j => ?_
    · exact List.pairwise_map.2 ((List.nodup_range).imp fun h e => h (by omega))
    · refine List.nodup_append.2 ⟨A.live_nodup, List.nodup_append.2 ⟨h.nd, List.pairwise_map.2 ((List.nodup_range).imp fun h e => h (by omega)), fun a ha b hb e => ?_⟩, fun a ha b hb e => ?_⟩
      · have h1 := h.rm a ha
        obtain ⟨i, _, rfl⟩ := List.mem_map.1 hb
        omega
      · have h1 := (A.mem_live a).1 ha
        rcases List.mem_append.1 hb with hb | hb
        · have h2 := (h.rm b hb).2.2
          rw [← e, h1.2] at h2; cases h2
        · obtain ⟨i, _, e2⟩ := List.mem_map.1 hb
          have h2 := h.hi a (by omega)
          rw [h1.2] at h2; cases h2
    · rw [List.mem_append, List.mem_append, A.mem_live, List.mem_map, List.mem_map]
      constructor
      · rintro ⟨i, hi, rfl⟩
        have hi := List.mem_range.1 hi
        by_cases ho : A.s.ok ((i : Int) + 1) = true
        · exact .inl ⟨by omega, ho⟩
        · right
          by_cases hf : (i : Int) + 1 ≤ A.s.fresh
          · exact .inl (h.cov _ (by omega) hf (by simpa using ho))
          · exact .inr ⟨((i : Int) - A.s.fresh).toNat, List.mem_range.2 (by omega), by omega⟩
      · rintro (⟨h0, h1⟩ | h1 | ⟨i, hi, rfl⟩)
        · have h2 := SM.ok_rng h h0 h1
          exact ⟨(j - 1).toNat, List.mem_range.2 (by omega), by omega⟩
        · have h2 := h.rm j h1
          exact ⟨(j - 1).toNat, List.mem_range.2 (by omega), by omega⟩
        · have hi := List.mem_range.1 hi
          exact ⟨(A.s.fresh + i).toNat, List.mem_range.2 (by omega), by omega⟩
  have h1 := hp.length_eq
  simp only [List.length_map, List.length_range, List.length_append] at h1
  unfold SM.free
  omega
theorem live_sub {A B : AM} (h : ∀ j, 0 ≤ j → B.s.ok j = true → A.s.ok j = true) : B.live.length ≤ A.live.length := by
  have hh : ∀ {l m : List Int}, l.Nodup → (∀ z ∈ l, z ∈ m) → l.length ≤ m.length := by
    intro l
    induction l with
    | nil => intro m _ _; exact Nat.zero_le _
    | cons x t ih =>
      intro m hn hs
      obtain ⟨h1, h2⟩ := List.nodup_cons.1 hn
      have h3 : x ∈ m := hs x (List.mem_cons_self ..)
      have h4 := ih (m := m.erase x) h2 (fun z hz => (List.mem_erase_of_ne (fun e => h1 (by rw [← e]; exact hz))).2 (hs z (List.mem_cons_of_mem _ hz)))
      rw [List.length_erase_of_mem h3] at h4
      have := List.length_pos_of_mem h3
      simp; omega
  exact hh B.live_nodup fun z hz => by
    have := (B.mem_live z).1 hz
    exact (A.mem_live z).2 ⟨this.1, h z this.1 this.2⟩
def lrOf (l r : Int) (k : Nat) : Int := if k = 0 then l else r
theorem lr_at {l r : Int} {k : Nat} (h : k < 2) : (#[.int .u32 l, .int .u32 r] : Array Value)[k]? = some (.int .u32 (lrOf l r k)) := by
  match k, h with
  | 0, _ => rfl
  | 1, _ => rfl
def ndAdd (n x : Nd) : Nd := ⟨n.key, n.val, n.lf, n.rg, n.size + x.size, IntKind.i64.wrap (n.sum + x.sum), min n.mn x.mn, max n.mx x.mx⟩
def accN (A : AM) (l r : Int) (n : Nd) : Nat → Nd
  | 0 => n
  | k + 1 => if lrOf l r k = 0 then accN A l r n k else ndAdd (accN A l r n k) (A.nd (lrOf l r k))
def ndBase (key val l r : Int) : Nd := ⟨key, val, l, r, 1, val, val, val⟩
def AM.nodeOf (A : AM) (key val l r : Int) : Nd := accN A l r (ndBase key val l r) 2
theorem accN_lf (A : AM) (l r : Int) (n : Nd) : ∀ k, (accN A l r n k).lf = n.lf ∧ (accN A l r n k).rg = n.rg ∧ (accN A l r n k).key = n.key ∧ (accN A l r n k).val = n.val
  | 0 => ⟨rfl, rfl, rfl, rfl⟩
  | k + 1 => by
    unfold accN
    split
    · exact accN_lf A l r n k
    · exact accN_lf A l r n k
structure Kd (A : AM) (l r : Int) : Prop where
  cl : l = 0 ∨ (1 ≤ l ∧ A.s.ok l = true)
  cr : r = 0 ∨ (1 ≤ r ∧ A.s.ok r = true)
  lz : 0 ≤ A.sz l
  rz : 0 ≤ A.sz r
  z : 1 + A.sz l + A.sz r ≤ 2147483647
theorem sz_0 {A : AM} (h : SOk A.s) : A.sz 0 = 0 := by unfold AM.sz; rw [h.u0]; rfl
theorem sz_ok {A : AM} {c : Int} (h : A.s.ok c = true) : A.sz c = (A.nd c).size := by unfold AM.sz; rw [if_pos h]
theorem Kd.at_ {A : AM} {l r : Int} (h : Kd A l r) (k : Nat) : (lrOf l r k = 0 ∨ (1 ≤ lrOf l r k ∧ A.s.ok (lrOf l r k) = true)) ∧ 0 ≤ A.sz (lrOf l r k) := by
  unfold lrOf
  split
  · exact ⟨h.cl, h.lz⟩
  · exact ⟨h.cr, h.rz⟩
theorem accN_sz {A : AM} (hA : AWf A) {l r : Int} (h : Kd A l r) (n : Nd) (k : Nat) : (accN A l r n (k + 1)).size = (accN A l r n k).size + A.sz (lrOf l r k) := by
  rw [accN]
  split
  · rename_i e; rw [e, sz_0 hA.s]; omega
  · rename_i e; rw [sz_ok ((h.at_ k).1.resolve_left e).2]; rfl
theorem nodeOf_sz {A : AM} (hA : AWf A) {key val l r : Int} (h : Kd A l r) : (A.nodeOf key val l r).size = 1 + A.sz l + A.sz r := by
  unfold AM.nodeOf
  rw [accN_sz hA h, accN_sz hA h]; rfl
theorem accN_le {A : AM} (hA : AWf A) {key val l r : Int} (h : Kd A l r) {k : Nat} (hk : k < 2) : 1 ≤ (accN A l r (ndBase key val l r) k).size ∧ (accN A l r (ndBase key val l r) k).size + A.sz (lrOf l r k) ≤ 2147483647 := by
  have h1 := h.lz; have h2 := h.rz; have h3 := h.z
  match k, hk with
  | 0, _ => exact ⟨by simp [accN, ndBase], by show 1 + A.sz l ≤ _; omega⟩
  | 1, _ =>
    rw [accN_sz hA h]
    exact ⟨by show 1 ≤ 1 + A.sz l; omega, by show 1 + A.sz l + A.sz r ≤ _; omega⟩
theorem okrng0 {A : AM} (h : AWf A) {c : Int} (hc : c = 0 ∨ (1 ≤ c ∧ A.s.ok c = true)) : 0 ≤ c ∧ c ≤ 65536 ∧ c.toNat < A.s.used.length := by
  have h4 := h.s.cap
  have h5 : A.s.cap = (A.s.used.length : Int) - 1 := rfl
  rcases hc with e | ⟨h1, h2⟩
  · subst e; exact ⟨by omega, by omega, by show 0 < _; omega⟩
  · have h3 := SM.ok_rng h.s (by omega) h2
    omega
theorem make_eq {A : AM} {n : Nd} {l r z2 z3 : Int} (h2 : (A.cnt.set A.s.next.toNat 1)[l.toNat]? = some z2) (h3 : ((A.cnt.set A.s.next.toNat 1).set l.toNat (IntKind.i64.wrap (z2 + 1)))[r.toNat]? = some z3) (hl : n.lf = l) (hr : n.rg = r) :
    A.make n = AM.mk A.s.alloc (A.nodes.set A.s.next.toNat n) (((A.cnt.set A.s.next.toNat 1).set l.toNat (IntKind.i64.wrap (z2 + 1))).set r.toNat (IntKind.i64.wrap (z3 + 1))) := by
  subst hl; subst hr
  have e1 : (A.put n).cntOf n.lf = z2 := by unfold AM.cntOf; show ((A.cnt.set A.s.next.toNat 1)[n.lf.toNat]?).getD 0 = z2; rw [h2]; rfl
  have e2 : (A.put n).inc n.lf = AM.mk A.s.alloc (A.nodes.set A.s.next.toNat n) ((A.cnt.set A.s.next.toNat 1).set n.lf.toNat (IntKind.i64.wrap (z2 + 1))) := by unfold AM.inc; rw [e1]; rfl
  unfold AM.make
  rw [e2]
  unfold AM.inc AM.cntOf
  simp only
  rw [h3]; rfl
def Is (A : AM) : Tr → Int → Prop
  | .nil, i => i = 0
  | .node l k v r, i => 1 ≤ i ∧ A.s.ok i = true ∧ (A.nd i).key = k ∧ (A.nd i).val = v ∧ Is A l (A.nd i).lf ∧ Is A r (A.nd i).rg
theorem Is.sz {A : AM} {R : List Int} (h : ARf A R) : ∀ (t : Tr) (i : Int), Is A t i → A.sz i = t.n
  | .nil, i, hi => by
    have : i = 0 := hi
    subst this
    unfold AM.sz
    rw [h.s.u0]; rfl
  | .node l k v r, i, ⟨h1, h2, _, _, h5, h6⟩ => by
    have hs := (h.sz i h2 (by omega)).1
    rw [Is.sz h l _ h5, Is.sz h r _ h6] at hs
    unfold AM.sz
    rw [if_pos h2, hs]; simp only [Tr.n]; omega
theorem Is.ref {A : AM} : ∀ {t : Tr} {i : Int}, Is A t i → i = 0 ∨ (1 ≤ i ∧ A.s.ok i = true)
  | .nil, _, h => .inl h
  | .node _ _ _ _, _, h => .inr ⟨h.1, h.2.1⟩
theorem Is.nil_iff {A : AM} {t : Tr} {i : Int} (h : Is A t i) : i = 0 ↔ t = .nil := by
  cases t with
  | nil => exact ⟨fun _ => rfl, fun _ => h⟩
  | node => exact ⟨fun e => absurd h.1 (by omega), fun e => by cases e⟩
theorem ARf.tree {A : AM} {R : List Int} (h : ARf A R) : ∀ (m : Nat) (i : Int), (i = 0 ∨ (1 ≤ i ∧ A.s.ok i = true)) → A.sz i ≤ m → ∃ t, Is A t i
  | m, i, hi, hm => by
    induction m using Nat.strongRecOn generalizing i with
    | _ m ih =>
      rcases hi with e | ⟨h1, h2⟩
      · exact ⟨.nil, e⟩
      · have hs := (h.sz i h2 (by omega)).1
        have hp := h.pos i h2 (by omega)
        have e : A.sz i = (A.nd i).size := by unfold AM.sz; rw [if_pos h2]
        have hk := fun c hc => h.kid i h2 (by omega) c hc
        have hn : ∀ c, (c = 0 ∨ (1 ≤ c ∧ A.s.ok c = true)) → 0 ≤ A.sz c := fun c hc => by
          rcases hc with e | ⟨c1, c2⟩
          · subst e; unfold AM.sz; rw [h.s.u0]; exact Int.le_refl _
          · have := h.pos c c2 (by omega); unfold AM.sz; rw [if_pos c2]; omega
        have hl := hn _ (hk _ (.inl rfl))
        have hr := hn _ (hk _ (.inr rfl))
        obtain ⟨l, il⟩ := ih (m - 1) (by omega) _ (hk _ (.inl rfl)) (by omega)
        obtain ⟨r, ir⟩ := ih (m - 1) (by omega) _ (hk _ (.inr rfl)) (by omega)
        exact ⟨.node l _ _ r, h1, h2, rfl, rfl, il, ir⟩
def Kp (A B : AM) (R : List Int) : Prop := ∀ r ∈ R, ∀ t, Is A t r → Is B t r
theorem Kp.refl (A : AM) (R : List Int) : Kp A A R := fun _ _ _ h => h
theorem Kp.trans {A B C : AM} {R : List Int} (h : Kp A B R) (k : Kp B C R) : Kp A C R := fun r hr t ht => k r hr t (h r hr t ht)
theorem Kp.sub {A B : AM} {R R' : List Int} (h : Kp A B R) (hs : ∀ r ∈ R', r ∈ R) : Kp A B R' := fun r hr t ht => h r (hs r hr) t ht
theorem Kp.cons {A B : AM} {R : List Int} {x : Int} (h : Kp A B (x :: R)) : Kp A B R := h.sub fun _ hr => List.mem_cons_of_mem _ hr
theorem Is.mono {A B : AM} {RB : List Int} (hB : ARf B RB) (h : ∀ j, 0 ≤ j → B.s.ok j = true → B.nd j = A.nd j) : ∀ (t : Tr) (i : Int), Is A t i → (i = 0 ∨ B.s.ok i = true) → Is B t i
  | .nil, _, hi, _ => hi
  | .node l k v r, i, ⟨h1, h2, h3, h4, h5, h6⟩, hb => by
    have hb : B.s.ok i = true := hb.resolve_left (by omega)
    have hk := fun c hc => hB.kid i hb (by omega) c hc
    have e := h i (by omega) hb
    refine ⟨h1, hb, by rw [e]; exact h3, by rw [e]; exact h4, ?_, ?_⟩
    · rw [e]; exact Is.mono hB h l _ h5 ((hk _ (.inl (by rw [e]))).imp id (·.2))
    · rw [e]; exact Is.mono hB h r _ h6 ((hk _ (.inr (by rw [e]))).imp id (·.2))
theorem Is.up {A B : AM} (h : ∀ j, 1 ≤ j → A.s.ok j = true → B.s.ok j = true ∧ B.nd j = A.nd j) : ∀ (t : Tr) (i : Int), Is A t i → Is B t i
  | .nil, _, hi => hi
  | .node l k v r, i, ⟨h1, h2, h3, h4, h5, h6⟩ => by
    obtain ⟨hb, e⟩ := h i h1 h2
    refine ⟨h1, hb, by rw [e]; exact h3, by rw [e]; exact h4, ?_, ?_⟩
    · rw [e]; exact Is.up h l _ h5
    · rw [e]; exact Is.up h r _ h6
structure TOp (A B : AM) (R : List Int) (i : Int) (t : Tr) (c : Nat) : Prop where
  ref : ARf B (i :: R)
  is : Is B t i
  kp : Kp A B R
  fr : A.s.free ≤ B.s.free + c
  cap : B.s.used.length = A.s.used.length
theorem TOp.rng {A B : AM} {R : List Int} {i : Int} {t : Tr} {c : Nat} (h : TOp A B R i t c) : 0 ≤ i ∧ i < 4294967296 := ⟨(h.ref.rng (List.mem_cons_self ..)).1, (h.ref.rng (List.mem_cons_self ..)).2.1⟩
theorem ARf.refl {A : AM} {R : List Int} {i : Int} {t : Tr} (h : ARf A (i :: R)) (hi : Is A t i) : TOp A A R i t 0 := ⟨h, hi, Kp.refl _ _, by omega, rfl⟩
theorem TOp.trans {A B C : AM} {R R' : List Int} {i j : Int} {t u : Tr} {c d : Nat} (h : TOp A B R' i t c) (k : TOp B C R j u d) (hs : ∀ r ∈ R, r ∈ R') : TOp A C R j u (c + d) :=
  ⟨k.ref, k.is, (h.kp.sub hs).trans k.kp, by have := h.fr; have := k.fr; omega, k.cap.trans h.cap⟩
theorem TOp.weak {A B : AM} {R : List Int} {i : Int} {t : Tr} {c d : Nat} (h : TOp A B R i t c) (hd : c ≤ d) : TOp A B R i t d := ⟨h.ref, h.is, h.kp, by have := h.fr; omega, h.cap⟩
theorem AM.ret_eq {A : AM} {R : List Int} (h : ARf A R) {i : Int} (hi : i = 0 ∨ (1 ≤ i ∧ A.s.ok i = true)) (hl : R.length + 1 ≤ 1000000000) : ARf (A.ret i) (i :: R) ∧ A.retE i = 0 := by
  unfold AM.ret AM.retE
  rcases hi with e | ⟨h1, h2⟩
  · subst e; rw [if_neg (fun h => h.1 rfl), if_pos (.inl rfl)]; exact ⟨h.cons0 hl, rfl⟩
  · rw [if_pos ⟨by omega, h2⟩, if_pos (.inr h2)]; exact ⟨h.inc h2 (by omega) hl, rfl⟩
theorem Is.same {A B : AM} (hs : B.s = A.s) (hn : B.nodes = A.nodes) : ∀ (t : Tr) (i : Int), Is A t i → Is B t i := by
  refine fun t i h => Is.up (fun j _ hj => ⟨by rw [hs]; exact hj, ?_⟩) t i h
  unfold AM.nd; rw [hn]
theorem AM.ret_same (A : AM) (i : Int) : (A.ret i).s = A.s ∧ (A.ret i).nodes = A.nodes := by
  unfold AM.ret
  split <;> exact ⟨rfl, rfl⟩
theorem Is.ret {A : AM} {t : Tr} {j : Int} (i : Int) (h : Is A t j) : Is (A.ret i) t j := Is.same (A.ret_same i).1 (A.ret_same i).2 t j h
theorem Kp.ret (A : AM) (i : Int) (R : List Int) : Kp A (A.ret i) R := fun _ _ _ h => h.ret i
end Go.V
namespace Go.V
open Go Go.RowKit
theorem AM.make_keep {A : AM} {n : Nd} (h : AWf A) (hf : 0 < A.s.free) : (∀ j, 1 ≤ j → A.s.ok j = true → (A.make n).s.ok j = true ∧ (A.make n).nd j = A.nd j) ∧ (A.make n).s.ok A.s.next = true ∧ (A.make n).nd A.s.next = n ∧ (A.make n).s.free = A.s.free - 1 ∧ (A.make n).s.used.length = A.s.used.length := by
  have hn := SM.next_rng h.s hf
  have hnl : A.s.next.toNat < A.nodes.length := by rw [h.nl]; exact hn.2.2.1
  have hok : ∀ j, 0 ≤ j → (A.make n).s.ok j = if j = A.s.next then true else A.s.ok j := fun j hj => SM.alloc_ok' h.s hf hj
  have hnd : ∀ j, 0 ≤ j → (A.make n).nd j = if j = A.s.next then n else A.nd j := fun j hj => AM.nd_set hnl (by omega) hj
  refine ⟨fun j hj ho => ?_, by rw [hok _ (by omega), if_pos rfl], by rw [hnd _ (by omega), if_pos rfl], SM.alloc_free _, ?_⟩
  · have hne : j ≠ A.s.next := fun e => by rw [e, hn.2.2.2] at ho; cases ho
    rw [hok j (by omega), hnd j (by omega), if_neg hne, if_neg hne]; exact ⟨ho, rfl⟩
  · show (A.s.used.set _ _).length = _
    rw [List.length_set]
structure Mk (A : AM) (R : List Int) (l r : Int) (tl tr : Tr) (k v : Int) : Prop where
  kd : Kd A l r
  rf : ARf (A.make (A.nodeOf k v l r)) (A.s.next :: l :: r :: R)
  is : Is (A.make (A.nodeOf k v l r)) (.node tl k v tr) A.s.next
  kp : Kp A (A.make (A.nodeOf k v l r)) (l :: r :: R)
  fr : (A.make (A.nodeOf k v l r)).s.free = A.s.free - 1
  cap : (A.make (A.nodeOf k v l r)).s.used.length = A.s.used.length
theorem Mk.of {A : AM} {R : List Int} {l r : Int} {tl tr : Tr} {k v : Int} (hA : ARf A (l :: r :: R)) (hl : Is A tl l) (hr : Is A tr r) (hf : 0 < A.s.free) (hz : tl.n + tr.n ≤ 2000000000) (hlen : R.length + 4 ≤ 1000000000) : Mk A R l r tl tr k v := by
  have hn := SM.next_rng hA.s hf
  have e1 := Is.sz hA tl l hl
  have e2 := Is.sz hA tr r hr
  have kd : Kd A l r := ⟨hl.ref, hr.ref, by omega, by omega, by omega⟩
  have hnl := accN_lf A l r (ndBase k v l r) 2
  have hlf : (A.nodeOf k v l r).lf = l := hnl.1
  have hrg : (A.nodeOf k v l r).rg = r := hnl.2.1
  have hky : (A.nodeOf k v l r).key = k := hnl.2.2.1
  have hvl : (A.nodeOf k v l r).val = v := hnl.2.2.2
  have hsz := nodeOf_sz hA.toAWf (key := k) (val := v) kd
  obtain ⟨k1, k2, k3, k4, k5⟩ := AM.make_keep (n := A.nodeOf k v l r) hA.toAWf hf
  have rf := hA.make (n := A.nodeOf k v l r) hf (by rw [hlf]; exact hl.ref) (by rw [hrg]; exact hr.ref) (by rw [hlf, hrg]; omega) (by omega) (by simp; omega)
  refine ⟨kd, rf, ⟨hn.1, k2, by rw [k3]; exact hky, by rw [k3]; exact hvl, ?_, ?_⟩, fun x _ t ht => Is.up k1 t x ht, k4, k5⟩
  · rw [k3, hlf]; exact Is.up k1 tl l hl
  · rw [k3, hrg]; exact Is.up k1 tr r hr
structure Rl (A B : AM) (R : List Int) : Prop where
  ref : ARf B R
  kp : Kp A B R
  fr : A.s.free ≤ B.s.free
  cap : B.s.used.length = A.s.used.length
theorem Mk.op {A B C : AM} {R : List Int} {l r : Int} {tl tr : Tr} {k v : Int} (h : Mk A R l r tl tr k v) (h1 : Rl (A.make (A.nodeOf k v l r)) B (A.s.next :: r :: R)) (h2 : Rl B C (A.s.next :: R)) : TOp A C R A.s.next (.node tl k v tr) 1 :=
  ⟨h2.ref, h2.kp _ (List.mem_cons_self ..) _ (h1.kp _ (List.mem_cons_self ..) _ h.is),
    fun x hx t ht => h2.kp x (List.mem_cons_of_mem _ hx) t (h1.kp x (List.mem_cons_of_mem _ (List.mem_cons_of_mem _ hx)) t (h.kp x (List.mem_cons_of_mem _ (List.mem_cons_of_mem _ hx)) t ht)),
    by have := h.fr; have := h1.fr; have := h2.fr; omega, by rw [h2.cap, h1.cap, h.cap]⟩
theorem Mk.p1 {A : AM} {R : List Int} {l r : Int} {tl tr : Tr} {k v : Int} (h : Mk A R l r tl tr k v) : ARf (A.make (A.nodeOf k v l r)) (l :: A.s.next :: r :: R) := h.rf.perm (List.Perm.swap _ _ _)
theorem Rl.p1 {A B : AM} {R : List Int} {x r : Int} (h : Rl A B (x :: r :: R)) : ARf B (r :: x :: R) := h.ref.perm (List.Perm.swap _ _ _)
structure Opn (A B : AM) (R : List Int) (x y : Int) (l r : Tr) : Prop where
  ref : ARf B (x :: y :: R)
  il : Is B l x
  ir : Is B r y
  kp : Kp A B R
  fr : A.s.free ≤ B.s.free
  cap : B.s.used.length = A.s.used.length
theorem Opn.rng {A B : AM} {R : List Int} {x y : Int} {l r : Tr} (h : Opn A B R x y l r) : (0 ≤ x ∧ x < 4294967296) ∧ 0 ≤ y ∧ y < 4294967296 := by
  have h1 := h.ref.rng (r := x) (by simp)
  have h2 := h.ref.rng (r := y) (by simp)
  omega
theorem Opn.of {A B : AM} {R : List Int} {i k v : Int} {l r : Tr} (hi : Is A (.node l k v r) i) (h : Rl ((A.ret (A.nd i).lf).ret (A.nd i).rg) B ((A.nd i).lf :: (A.nd i).rg :: R)) : Opn A B R (A.nd i).lf (A.nd i).rg l r :=
  ⟨h.ref, h.kp _ (by simp) _ ((hi.2.2.2.2.1.ret _).ret _), h.kp _ (by simp) _ ((hi.2.2.2.2.2.ret _).ret _), fun x hx t ht => h.kp x (by simp [hx]) t ((ht.ret _).ret _),
    by have := h.fr; rw [(AM.ret_same _ _).1, (AM.ret_same _ _).1] at this; exact this, by rw [h.cap, (AM.ret_same _ _).1, (AM.ret_same _ _).1]⟩
theorem Opn.swap {A B : AM} {R : List Int} {x y : Int} {l r : Tr} (h : Opn A B R x y l r) : ARf B (y :: x :: R) := h.ref.perm (List.Perm.swap _ _ _)
structure Ch (A B : AM) (R : List Int) (c : Nat) : Prop where
  kp : Kp A B R
  fr : A.s.free ≤ B.s.free + c
  cap : B.s.used.length = A.s.used.length
theorem Ch.trans {A B C : AM} {R R' R'' : List Int} {c d : Nat} (h : Ch A B R' c) (k : Ch B C R'' d) (h1 : ∀ r ∈ R, r ∈ R') (h2 : ∀ r ∈ R, r ∈ R'') : Ch A C R (c + d) :=
  ⟨(h.kp.sub h1).trans (k.kp.sub h2), by have := h.fr; have := k.fr; omega, k.cap.trans h.cap⟩
theorem Opn.ch {A B : AM} {R : List Int} {x y : Int} {l r : Tr} (h : Opn A B R x y l r) : Ch A B R 0 := ⟨h.kp, by have := h.fr; omega, h.cap⟩
theorem TOp.ch {A B : AM} {R : List Int} {i : Int} {t : Tr} {c : Nat} (h : TOp A B R i t c) : Ch A B R c := ⟨h.kp, h.fr, h.cap⟩
theorem Rl.ch {A B : AM} {R : List Int} (h : Rl A B R) : Ch A B R 0 := ⟨h.kp, by have := h.fr; omega, h.cap⟩
theorem TOp.after {A B C : AM} {R R' : List Int} {i : Int} {t : Tr} {c d e : Nat} (k : TOp B C R i t d) (h : Ch A B R' c) (h1 : ∀ r ∈ R, r ∈ R') (he : c + d ≤ e) : TOp A C R i t e :=
  let q := h.trans k.ch h1 (fun _ h => h)
  ⟨k.ref, k.is, q.kp, by have := q.fr; omega, q.cap⟩
theorem ARf.sw {A : AM} {R : List Int} {a b : Int} (h : ARf A (a :: b :: R)) : ARf A (b :: a :: R) := h.perm (List.Perm.swap _ _ _)
theorem ARf.r3 {A : AM} {R : List Int} {a b c : Int} (h : ARf A (a :: b :: c :: R)) : ARf A (c :: a :: b :: R) := h.perm ((List.Perm.cons a (List.Perm.swap c b R)).trans (List.Perm.swap c a _))
theorem ARf.r4 {A : AM} {R : List Int} {a b c d : Int} (h : ARf A (a :: b :: c :: d :: R)) : ARf A (d :: a :: b :: c :: R) := h.perm ((List.Perm.cons a ((List.Perm.cons b (List.Perm.swap d c R)).trans (List.Perm.swap d b _))).trans (List.Perm.swap d a _))
theorem sb1 {a : Int} {R : List Int} : ∀ r ∈ R, r ∈ a :: R := fun _ h => List.mem_cons_of_mem _ h
theorem sb2 {a b : Int} {R : List Int} : ∀ r ∈ R, r ∈ a :: b :: R := fun _ h => List.mem_cons_of_mem _ (List.mem_cons_of_mem _ h)
theorem sb0 {R : List Int} : ∀ r ∈ R, r ∈ R := fun _ h => h
end Go.V
namespace Go.V
open Go Go.RowKit
def ixs (A : AM) : Tr → Int → List Int
  | .nil, _ => []
  | .node l _ _ r, i => ixs A l (A.nd i).lf ++ i :: ixs A r (A.nd i).rg
theorem ixs_keys (A : AM) : ∀ (t : Tr) (i : Int), Is A t i → (ixs A t i).map (fun j => ((A.nd j).key, (A.nd j).val)) = t.ls
  | .nil, _, _ => rfl
  | .node l k v r, i, ⟨_, _, h3, h4, h5, h6⟩ => by
    unfold ixs Tr.ls
    rw [List.map_append, List.map_cons, ixs_keys A l _ h5, ixs_keys A r _ h6, h3, h4]
theorem ixs_len (A : AM) {t : Tr} {i : Int} (h : Is A t i) : (ixs A t i).length = t.n := by
  rw [← Tr.ls_len, ← ixs_keys A t i h, List.length_map]
theorem ixs_nodup {A : AM} {t : Tr} {i : Int} (h : Is A t i) (hs : Srt t.ls) : (ixs A t i).Nodup := by
  have h1 := ixs_keys A t i h
  rw [← h1] at hs
  have h2 := List.pairwise_map.1 hs
  exact h2.imp fun {a b} hab e => by subst e; exact absurd hab (by omega)
theorem ixs_ok (A : AM) : ∀ (t : Tr) (i : Int), Is A t i → ∀ j ∈ ixs A t i, 1 ≤ j ∧ A.s.ok j = true
  | .nil, _, _, _, hj => by cases hj
  | .node l k v r, i, ⟨h1, h2, _, _, h5, h6⟩, j, hj => by
    unfold ixs at hj
    rcases List.mem_append.1 hj with hj | hj
    · exact ixs_ok A l _ h5 j hj
    · rcases List.mem_cons.1 hj with rfl | hj
      · exact ⟨h1, h2⟩
      · exact ixs_ok A r _ h6 j hj
theorem ixs_root {A : AM} : ∀ {t : Tr} {i : Int}, Is A t i → i ≠ 0 → i ∈ ixs A t i
  | .nil, _, h, hne => absurd h hne
  | .node _ _ _ _, _, _, _ => by unfold ixs; simp
theorem ixs_kid {A : AM} : ∀ (t : Tr) (i : Int), Is A t i → ∀ j ∈ ixs A t i, ∀ c, c = (A.nd j).lf ∨ c = (A.nd j).rg → c ≠ 0 → c ∈ ixs A t i
  | .nil, _, _, _, hj, _, _, _ => by cases hj
  | .node l k v r, i, ⟨h1, h2, _, _, h5, h6⟩, j, hj, c, hc, hne => by
    unfold ixs at hj ⊢
    rcases List.mem_append.1 hj with hj | hj
    · exact List.mem_append_left _ (ixs_kid l _ h5 j hj c hc hne)
    · rcases List.mem_cons.1 hj with rfl | hj
      · rcases hc with rfl | rfl
        · exact List.mem_append_left _ (ixs_root h5 hne)
        · exact List.mem_append_right _ (List.mem_cons_of_mem _ (ixs_root h6 hne))
      · exact List.mem_append_right _ (List.mem_cons_of_mem _ (ixs_kid r _ h6 j hj c hc hne))
theorem reach {A : AM} {R : List Int} (h : ARf A R) (S : Int → Prop) (hR : ∀ r ∈ R, r ≠ 0 → S r) (hK : ∀ j, 1 ≤ j → A.s.ok j = true → S j → ∀ c, c = (A.nd j).lf ∨ c = (A.nd j).rg → c ≠ 0 → S c) : ∀ j, 1 ≤ j → A.s.ok j = true → S j := by
  have key : ∀ (m : Nat) (j : Int), 1 ≤ j → A.s.ok j = true → 2147483647 - (A.nd j).size < m → S j := by
    intro m
    induction m with
    | zero => intro j h1 h2 h3; have := (h.sz j h2 (by omega)).2; omega
    | succ m ih =>
      intro j h1 h2 h3
      have hc := h.cnt j h2 (by omega)
      have hm : j ∈ R ++ A.kids := List.count_pos_iff.1 (by omega)
      rcases List.mem_append.1 hm with hm | hm
      · exact hR j hm (by omega)
      · obtain ⟨p, p0, p1, p2⟩ := (A.mem_kids j).1 hm
        have hp1 := (SM.ok_rng h.s p0 p1).1
        have hsz := (h.sz p p1 p0).1
        have hn : ∀ c, (c = 0 ∨ (1 ≤ c ∧ A.s.ok c = true)) → 0 ≤ A.sz c := fun c hc => by
          rcases hc with e | ⟨c1, c2⟩
          · subst e; unfold AM.sz; rw [h.s.u0]; exact Int.le_refl _
          · have := h.pos c c2 (by omega); unfold AM.sz; rw [if_pos c2]; omega
        have hl := hn _ (h.kid p p1 p0 _ (.inl rfl))
        have hr := hn _ (h.kid p p1 p0 _ (.inr rfl))
        have hsj : A.sz j = (A.nd j).size := by unfold AM.sz; rw [if_pos h2]
        have hlt : (A.nd j).size < (A.nd p).size := by
          rcases p2 with e | e
          · rw [← hsj, e]; omega
          · rw [← hsj, e]; omega
        exact hK p hp1 p1 (ih p hp1 p1 (by omega)) j p2 (by omega)
  intro j h1 h2
  exact key ((2147483647 - (A.nd j).size).toNat + 1) j h1 h2 (by have := (h.sz j h2 (by omega)).2; omega)
theorem one_tree {A : AM} {r : Int} {t : Tr} (h : ARf A [r]) (hi : Is A t r) (hs : Srt t.ls) : A.s.cap - A.s.free = t.n := by
  have h1 := AM.cnt_live h.s
  have hp : A.live.Perm (ixs A t r) := (List.perm_ext_iff_of_nodup A.live_nodup (ixs_nodup hi hs)).2 fun j => by
    rw [A.mem_live]
    constructor
    · rintro ⟨h0, h2⟩
      have h3 := (SM.ok_rng h.s h0 h2).1
      refine reach h (fun j => j ∈ ixs A t r) (fun x hx hne => ?_) (fun j _ _ hj c hc hne => ixs_kid t r hi j hj c hc hne) j h3 h2
      rw [List.mem_singleton.1 hx] at hne ⊢
      exact ixs_root hi hne
    · intro hj
      have := ixs_ok A t r hi j hj
      exact ⟨by omega, this.2⟩
  have h2 := hp.length_eq
  rw [ixs_len A hi] at h2
  omega
end Go.V
/-! ## S1 -/
namespace Go.Proofs.YtlnlnebibgdjdaaGreat
open Go Go.V
set_option maxRecDepth 8192 in
theorem sl_cap0 {g w : World} {L : List HP} (s : Nat) (ua ga ra : Option Addr) (n ng nr uc gc rc : Nat) (fr : Int) (hn : n ≤ 65537) (hS : St g (cel s #[.slice ua n uc, .slice ga ng gc, .slice ra nr rc, .int .u32 fr] 233 :: L) w) :
    Sp Tryz.prog 67 [.pointer (some ⟨s, 0, none⟩)] w (fun v w' => v = .int .i64 (n - 1) ∧ St g (cel s #[.slice ua n uc, .slice ga ng gc, .slice ra nr rc, .int .u32 fr] 233 :: L) w') := by
  refine Sp.enter Tryz.func67 rfl (by kernel_rfl) (by kernel_rfl) ?_
  have _ := hn
  refine WC.seq ?_
  refine WC.region ?_
  refine WL.r 1 rfl ?_
  refine WL.nil ?_
  refine WC.seq ?_
  refine WC.region ?_
  refine WL.run 6 [.slice ua n uc] rfl (by exact hS.ld 0 rfl rfl) ?_
  refine WL.nw 8 rfl (w64 (by omega)) ?_
  refine WL.r 1 rfl ?_
  refine WL.nil ?_
  refine WC.ret ?_
  refine ⟨[.int .i64 ((n : Int) - 1)], rfl, ?_⟩
  exact ⟨rfl, hS⟩
set_option maxRecDepth 8192 in
theorem sl_free {g w : World} {L : List HP} (s : Nat) (S : SM) (hO : SOk S) (hS : St g (Slt s S :: L) w) :
    Sp Tryz.prog 68 [.pointer (some ⟨s, 0, none⟩)] w (fun v w' => v = .int .i64 S.free ∧ St g (Slt s S :: L) w') := by
  refine Sp.enter Tryz.func68 rfl (by kernel_rfl) (by kernel_rfl) ?_
  refine WC.seq ?_
  refine WC.region ?_
  have hfr := hO.fr; have hcp : S.cap = (S.used.length : Int) - 1 := rfl; have hle := hO.le; have hrl := hO.rle
  obtain ⟨⟨ua, uc, ga, gc, ra, rc⟩, hS⟩ := St.exOpen (f := sltF s S) hS; have hbu := bos_len S.used; have hbg := u32s_len S.gen; have hbr := u32s_len S.rel
  replace hS : St g (cel s #[.slice ua (List.length (bos S.used)) uc, .slice ga (List.length (u32s S.gen)) gc, .slice ra (List.length (u32s S.rel)) rc, .int .u32 S.fresh] 233 :: Own 4 1 (bos S.used) ua uc :: Own 64 1 (u32s S.gen) ga gc :: Own 64 1 (u32s S.rel) ra rc :: L) w := hS
  refine WL.r 1 rfl ?_
  refine WL.nil ?_
  refine WC.seq ?_
  refine WC.plan [([0, 5, 8, 1, 9, 2, 10, 3, 11, 4, 12], some (6, [0, 1, 2, 3, 4, 8, 9, 10, 11, 12])), ([7, 13, 14], none)] (by kernel_rfl) (by kernel_rfl) ?_
  refine WQ.run 11 [.slice ra (List.length (u32s S.rel)) rc, .int .u32 S.fresh] rfl (by exact ⟨hS.ld 0 rfl rfl, hS.ld 0 rfl rfl⟩) ?_
  refine WQ.nw 15 rfl (w64 (by omega)) ?_
  refine WQ.nil ?_
  intro m1
  replace hS := hS.drewN m1; generalize hwm1 : World.drewN _ _ = w at *; clear hwm1
  refine WL.call rfl rfl (sl_cap0 (s := s) (ua := ua) (ga := ga) (ra := ra) (n := List.length (bos S.used)) (ng := List.length (u32s S.gen)) (nr := List.length (u32s S.rel)) (uc := uc) (gc := gc) (rc := rc) (fr := S.fresh) (hn := (by omega)) (hS := hS)) rfl ?_
  clear hS; rintro _ w ⟨rfl, hS⟩
  replace hS : St g (cel s #[.slice ua (List.length (bos S.used)) uc, .slice ga (List.length (u32s S.gen)) gc, .slice ra (List.length (u32s S.rel)) rc, .int .u32 S.fresh] 233 :: Own 4 1 (bos S.used) ua uc :: Own 64 1 (u32s S.gen) ga gc :: Own 64 1 (u32s S.rel) ra rc :: L) w := hS
  refine WL.nil ?_
  refine ⟨by exact ⟨RQ.pure rfl rfl rfl rfl, RQ.pure rfl rfl rfl rfl, RQ.pure rfl rfl rfl rfl, RQ.load rfl rfl rfl rfl (hS.ld 0 rfl rfl), RQ.pure rfl rfl rfl rfl, RQ.pure rfl rfl rfl rfl, RQ.pure rfl rfl rfl rfl, RQ.pure rfl rfl rfl rfl, RQ.load rfl rfl rfl rfl (hS.ld 0 rfl rfl), RQ.pure rfl rfl rfl (congrArg (Value.int .i64) (Eq.symm (w64 (by omega))))⟩, ?_⟩
  refine WQ.r 1 rfl ?_
  refine WQ.nw 10 rfl (w64 (by omega)) ?_
  refine WQ.r 1 rfl ?_
  refine WQ.nw 16 rfl (w64 (by omega)) ?_
  refine WQ.r 1 rfl ?_
  refine WQ.nil ?_
  intro m2
  replace hS := hS.drewN m2; generalize hwm2 : World.drewN _ _ = w at *; clear hwm2
  as_aux_lemma =>
    refine WC.ret ?_
    replace hS := St.exClose (f := sltF s S) ⟨ua, uc, ga, gc, ra, rc⟩ hS
    replace hS : St g (Slt s S :: L) w := hS
    refine ⟨[.int .i64 (((List.length (u32s S.rel) : Int) + ((List.length (bos S.used)) - 1)) - S.fresh)], rfl, ?_⟩
    exact ⟨congrArg (Value.int .i64) (by unfold SM.free; omega), hS⟩
set_option maxRecDepth 8192 in
theorem sl_ok {g w : World} {L : List HP} (s : Nat) (S : SM) (i : Int) (hl : S.used.length ≤ 65537) (hi : 0 ≤ i ∧ i < 4294967296) (hS : St g (Slt s S :: L) w) :
    Sp Tryz.prog 77 [.pointer (some ⟨s, 0, none⟩), .int .u32 i] w (fun v w' => v = .bool (S.ok i) ∧ St g (Slt s S :: L) w') := by
  refine Sp.enter Tryz.func77 rfl (by kernel_rfl) (by kernel_rfl) ?_
  have _ := hi
  have _ := hl
  refine WC.seq ?_
  refine WC.region ?_
  obtain ⟨⟨ua, uc, ga, gc, ra, rc⟩, hS⟩ := St.exOpen (f := sltF s S) hS; have hbu := bos_len S.used; have hbg := u32s_len S.gen; have hbr := u32s_len S.rel
  replace hS : St g (cel s #[.slice ua (List.length (bos S.used)) uc, .slice ga (List.length (u32s S.gen)) gc, .slice ra (List.length (u32s S.rel)) rc, .int .u32 S.fresh] 233 :: Own 4 1 (bos S.used) ua uc :: Own 64 1 (u32s S.gen) ga gc :: Own 64 1 (u32s S.rel) ra rc :: L) w := hS
  refine WL.r 1 rfl ?_
  refine WL.nil ?_
  refine WC.seq ?_
  refine WC.region ?_
  refine WL.r 2 rfl ?_
  refine WL.nw 6 rfl (w64 (by omega)) ?_
  refine WL.run 7 [.slice ua (List.length (bos S.used)) uc] rfl (by exact hS.ld 0 rfl rfl) ?_
  by_cases cg1 : i < (List.length (bos S.used) : Int)
  · refine WL.reb 13 (.bool true) (congrArg Value.bool (decide_eq_true cg1)) ?_
    refine WL.ung rfl rfl rfl ?_
    refine WL.r 1 rfl ?_
    refine WL.ung rfl rfl rfl ?_
    refine WL.r 1 rfl ?_
    refine WL.ung rfl rfl rfl ?_
    refine WL.r 1 rfl ?_
    refine WL.ung rfl rfl rfl ?_
    refine WL.run 1 [.slice ua (List.length (bos S.used)) uc] rfl (by exact hS.ld 0 rfl rfl) ?_
    refine WL.ung rfl rfl rfl ?_
    refine WL.r 1 rfl ?_
    refine WL.ung rfl rfl rfl ?_
    obtain ⟨x, hx⟩ : ∃ x, S.used[i.toNat]? = some x := ⟨_, List.getElem?_eq_getElem (by omega)⟩
    refine WL.ix rfl rfl (i := i) (i.toNat) el_33 rfl rfl (by omega) (by omega) (hS.rdO 1 rfl (bos_at hx)).1 ?_
    refine WL.ung rfl rfl rfl ?_
    refine WL.run 3 [.bool x] rfl (by exact (hS.rdO 1 rfl (bos_at hx)).2 0 _ rfl) ?_
    refine WL.nil ?_
    as_aux_lemma =>
      refine WC.ret ?_
      replace hS := St.exClose (f := sltF s S) ⟨ua, uc, ga, gc, ra, rc⟩ hS
      replace hS : St g (Slt s S :: L) w := hS
      refine ⟨[.bool x], rfl, ?_⟩
      first | exact ⟨congrArg Value.bool (by unfold SM.ok; rw [hx]; rfl), hS⟩ | exact ⟨congrArg Value.bool (by unfold SM.ok; rw [List.getElem?_eq_none (by omega)]; rfl), hS⟩
  · refine WL.reb 13 (.bool false) (congrArg Value.bool (decide_eq_false cg1)) ?_
    refine WL.skp rfl rfl rfl rfl ?_
    refine WL.skp rfl rfl rfl rfl ?_
    refine WL.skp rfl rfl rfl rfl ?_
    refine WL.skp rfl rfl rfl rfl ?_
    refine WL.skp rfl rfl rfl rfl ?_
    refine WL.skp rfl rfl rfl rfl ?_
    refine WL.skp rfl rfl rfl rfl ?_
    refine WL.r 2 rfl ?_
    refine WL.nil ?_
    refine WC.ret ?_
    replace hS := St.exClose (f := sltF s S) ⟨ua, uc, ga, gc, ra, rc⟩ hS
    replace hS : St g (Slt s S :: L) w := hS
    refine ⟨[.bool false], rfl, ?_⟩
    first | exact ⟨congrArg Value.bool (by unfold SM.ok; rw [hx]; rfl), hS⟩ | exact ⟨congrArg Value.bool (by unfold SM.ok; rw [List.getElem?_eq_none (by omega)]; rfl), hS⟩
end Go.Proofs.YtlnlnebibgdjdaaGreat
/-! ## S2 -/
namespace Go.Proofs.YtlnlnebibgdjdaaGreat
open Go Go.V
theorem rel_nil {S : SM} (h : ¬ 0 ≤ (List.length (u32s S.rel) : Int) - 1) : S.rel = [] := by
  rw [u32s_len] at h
  exact List.length_eq_zero_iff.1 (by omega)
theorem sl_new_close {g w : World} {L : List HP} {n s : Nat} {ua ga : Option Addr} {uc gc : Nat} (hS : St g (cel s #[.slice ua (n + 1) uc, .slice ga (n + 1) gc, .slice none 0 0, .int .u32 0] 233 :: Own 4 1 (bos (List.replicate (n + 1) false)) ua uc :: Own 64 1 (u32s (List.replicate (n + 1) 0)) ga gc :: Own 64 1 [] none 0 :: L) w) : St g (sltF s (SM.new n) ⟨ua, uc, ga, gc, none, 0⟩ ++ L) w := by
  have e1 : (bos (SM.new n).used).length = n + 1 := by simp [SM.new]
  have e2 : (u32s (SM.new n).gen).length = n + 1 := by simp [SM.new]
  unfold sltF
  rw [e1, e2]
  exact hS
set_option maxRecDepth 8192 in
theorem sl_new_ok {g w : World} {L : List HP} (cap : Int) (hc : 1 ≤ cap ∧ cap ≤ 65536) (hS : St g (L) w) :
    Sp Tryz.prog 117 [.int .i64 cap] w (fun v w' => ∃ (s : Nat), v = .tuple #[.pointer (some ⟨s, 0, none⟩), .int .i64 0] ∧ St g (Slt s (SM.new cap.toNat) :: L) w') := by
  refine Sp.enter Tryz.func117 rfl (by kernel_rfl) (by kernel_rfl) ?_
  have _ := hc
  refine WC.seq ?_
  refine WC.region ?_
  refine WL.r 2 rfl ?_
  refine WL.nil ?_
  refine WC.seq ?_
  refine WC.seq ?_
  refine WC.region ?_
  refine WL.r 2 rfl ?_
  refine WL.rG 4 rfl (fun j => ?_)
  refine WL.prop 9 rfl (bor (dd _) (dd _)) ?_
  refine WL.nil ?_
  refine WC.ifF rfl (decide_eq_false ((by omega))) ?_
  refine WC.skip ?_
  refine WC.seq ?_
  refine WC.tree (.two [0, 3, 1, 4] 2 [3, 4] (.one [] 5 [0, 1] (.one [6] 7 [] (.seg [8, 9] .nil))) 5 [0, 1] (.one [] 2 [3, 4] (.one [6] 7 [] (.seg [8, 9] .nil)))) (by kernel_rfl) (by kernel_rfl) ?_
  refine WQ.r 3 rfl ?_
  refine WQ.nw 11 rfl (w64 (by omega)) ?_
  refine WQ.r 1 rfl ?_
  refine WQ.nw 14 rfl (w64 (by omega)) ?_
  refine WQ.nil ?_
  intro m1
  replace hS := hS.drewN m1; generalize hwm1 : World.drewN _ _ = w at *; clear hwm1
  refine ⟨?_, ?_⟩
  · refine WL.make rfl rfl (v := cap + 1) (v' := cap + 1) (cap.toNat + 1) (cap.toNat + 1) el_33 hS rfl (by omega) rfl (by omega) (by omega) (Rm.of (by omega) (by decide)) (fun b1 w hS => ?_)
    replace hS : St g (Own 4 1 (List.replicate (cap.toNat + 1) [.bool false]) (some ⟨b1, 0, none⟩) (cap.toNat + 1) :: L) w := hS
    refine WL.nil ?_
    refine ⟨by exact ⟨RQ.pure rfl rfl rfl rfl, RQ.pure rfl rfl rfl (congrArg (Value.int .i64) (Eq.symm (w64 (by omega))))⟩, ?_⟩
    refine WQ.nil ?_
    intro m2
    replace hS := hS.drewN m2; generalize hwm2 : World.drewN _ _ = w at *; clear hwm2
    refine WL.make rfl rfl (v := cap + 1) (v' := cap + 1) (cap.toNat + 1) (cap.toNat + 1) el_32 hS rfl (by omega) rfl (by omega) (by omega) (Rm.of (by omega) (by decide)) (fun b2 w hS => ?_)
    replace hS : St g (Own 64 1 (List.replicate (cap.toNat + 1) [.int .u32 0]) (some ⟨b2, 0, none⟩) (cap.toNat + 1) :: Own 4 1 (List.replicate (cap.toNat + 1) [.bool false]) (some ⟨b1, 0, none⟩) (cap.toNat + 1) :: L) w := hS
    refine WL.nil ?_
    refine ⟨by exact ⟨RQ.pure rfl rfl rfl rfl, RQ.pure rfl rfl rfl (congrArg (Value.int .i64) (Eq.symm (w64 (by omega))))⟩, ?_⟩
    refine WQ.build rfl rfl (cs := [.slice (some ⟨b1, 0, none⟩) (cap.toNat + 1) (cap.toNat + 1), .slice (some ⟨b2, 0, none⟩) (cap.toNat + 1) (cap.toNat + 1), .slice none 0 0, .int .u32 0]) zv_233 rfl rfl ?_
    refine WQ.nil ?_
    intro m3
    replace hS := hS.drewN m3; generalize hwm3 : World.drewN _ _ = w at *; clear hwm3
    refine WL.box rfl rfl #[.slice (some ⟨b1, 0, none⟩) (cap.toNat + 1) (cap.toNat + 1), .slice (some ⟨b2, 0, none⟩) (cap.toNat + 1) (cap.toNat + 1), .slice none 0 0, .int .u32 0] hS rfl rfl (fun b3 w hS => ?_)
    refine WL.nil ?_
    refine ⟨by exact trivial, ?_⟩
    refine WQ.r 2 rfl ?_
    refine WQ.nil ?_
    intro m4
    replace hS := hS.drewN m4; generalize hwm4 : World.drewN _ _ = w at *; clear hwm4
    as_aux_lemma =>
      refine WC.ret ?_
      rw [bos_rep, u32s_rep] at hS
      first
      | (replace hS : St g (cel b3 #[.slice (some ⟨b1, 0, none⟩) (cap.toNat + 1) (cap.toNat + 1), .slice (some ⟨b2, 0, none⟩) (cap.toNat + 1) (cap.toNat + 1), .slice none 0 0, .int .u32 0] 233 :: Own 4 1 (bos (List.replicate (cap.toNat + 1) false)) (some ⟨b1, 0, none⟩) (cap.toNat + 1) :: Own 64 1 (u32s (List.replicate (cap.toNat + 1) 0)) (some ⟨b2, 0, none⟩) (cap.toNat + 1) :: Own 64 1 [] none 0 :: L) w := (hS.nil_ 64 1).sel 4 [1, 2, 1, 0] rfl; replace hS := St.exClose (f := sltF b3 (SM.new cap.toNat)) ⟨some ⟨b1, 0, none⟩, cap.toNat + 1, some ⟨b2, 0, none⟩, cap.toNat + 1, none, 0⟩ (sl_new_close hS))
      | (replace hS : St g (cel b3 #[.slice (some ⟨b2, 0, none⟩) (cap.toNat + 1) (cap.toNat + 1), .slice (some ⟨b1, 0, none⟩) (cap.toNat + 1) (cap.toNat + 1), .slice none 0 0, .int .u32 0] 233 :: Own 4 1 (bos (List.replicate (cap.toNat + 1) false)) (some ⟨b2, 0, none⟩) (cap.toNat + 1) :: Own 64 1 (u32s (List.replicate (cap.toNat + 1) 0)) (some ⟨b1, 0, none⟩) (cap.toNat + 1) :: Own 64 1 [] none 0 :: L) w := (hS.nil_ 64 1).sel 4 [1, 1, 1, 0] rfl; replace hS := St.exClose (f := sltF b3 (SM.new cap.toNat)) ⟨some ⟨b2, 0, none⟩, cap.toNat + 1, some ⟨b1, 0, none⟩, cap.toNat + 1, none, 0⟩ (sl_new_close hS))
      replace hS : St g (Slt b3 (SM.new cap.toNat) :: L) w := hS
      refine ⟨[.pointer (some ⟨b3, 0, none⟩), .int .i64 0], ⟨rfl, rfl⟩, ?_⟩
      exact ⟨_, rfl, hS⟩
  · refine WL.make rfl rfl (v := cap + 1) (v' := cap + 1) (cap.toNat + 1) (cap.toNat + 1) el_32 hS rfl (by omega) rfl (by omega) (by omega) (Rm.of (by omega) (by decide)) (fun b1 w hS => ?_)
    replace hS : St g (Own 64 1 (List.replicate (cap.toNat + 1) [.int .u32 0]) (some ⟨b1, 0, none⟩) (cap.toNat + 1) :: L) w := hS
    refine WL.nil ?_
    refine ⟨by exact ⟨RQ.pure rfl rfl rfl rfl, RQ.pure rfl rfl rfl (congrArg (Value.int .i64) (Eq.symm (w64 (by omega))))⟩, ?_⟩
    refine WQ.nil ?_
    intro m2
    replace hS := hS.drewN m2; generalize hwm2 : World.drewN _ _ = w at *; clear hwm2
    refine WL.make rfl rfl (v := cap + 1) (v' := cap + 1) (cap.toNat + 1) (cap.toNat + 1) el_33 hS rfl (by omega) rfl (by omega) (by omega) (Rm.of (by omega) (by decide)) (fun b2 w hS => ?_)
    replace hS : St g (Own 4 1 (List.replicate (cap.toNat + 1) [.bool false]) (some ⟨b2, 0, none⟩) (cap.toNat + 1) :: Own 64 1 (List.replicate (cap.toNat + 1) [.int .u32 0]) (some ⟨b1, 0, none⟩) (cap.toNat + 1) :: L) w := hS
    refine WL.nil ?_
    refine ⟨by exact ⟨RQ.pure rfl rfl rfl rfl, RQ.pure rfl rfl rfl (congrArg (Value.int .i64) (Eq.symm (w64 (by omega))))⟩, ?_⟩
    refine WQ.build rfl rfl (cs := [.slice (some ⟨b2, 0, none⟩) (cap.toNat + 1) (cap.toNat + 1), .slice (some ⟨b1, 0, none⟩) (cap.toNat + 1) (cap.toNat + 1), .slice none 0 0, .int .u32 0]) zv_233 rfl rfl ?_
    refine WQ.nil ?_
    intro m3
    replace hS := hS.drewN m3; generalize hwm3 : World.drewN _ _ = w at *; clear hwm3
    refine WL.box rfl rfl #[.slice (some ⟨b2, 0, none⟩) (cap.toNat + 1) (cap.toNat + 1), .slice (some ⟨b1, 0, none⟩) (cap.toNat + 1) (cap.toNat + 1), .slice none 0 0, .int .u32 0] hS rfl rfl (fun b3 w hS => ?_)
    refine WL.nil ?_
    refine ⟨by exact trivial, ?_⟩
    refine WQ.r 2 rfl ?_
    refine WQ.nil ?_
    intro m4
    replace hS := hS.drewN m4; generalize hwm4 : World.drewN _ _ = w at *; clear hwm4
    as_aux_lemma =>
      refine WC.ret ?_
      rw [bos_rep, u32s_rep] at hS
      first
      | (replace hS : St g (cel b3 #[.slice (some ⟨b1, 0, none⟩) (cap.toNat + 1) (cap.toNat + 1), .slice (some ⟨b2, 0, none⟩) (cap.toNat + 1) (cap.toNat + 1), .slice none 0 0, .int .u32 0] 233 :: Own 4 1 (bos (List.replicate (cap.toNat + 1) false)) (some ⟨b1, 0, none⟩) (cap.toNat + 1) :: Own 64 1 (u32s (List.replicate (cap.toNat + 1) 0)) (some ⟨b2, 0, none⟩) (cap.toNat + 1) :: Own 64 1 [] none 0 :: L) w := (hS.nil_ 64 1).sel 4 [1, 2, 1, 0] rfl; replace hS := St.exClose (f := sltF b3 (SM.new cap.toNat)) ⟨some ⟨b1, 0, none⟩, cap.toNat + 1, some ⟨b2, 0, none⟩, cap.toNat + 1, none, 0⟩ (sl_new_close hS))
      | (replace hS : St g (cel b3 #[.slice (some ⟨b2, 0, none⟩) (cap.toNat + 1) (cap.toNat + 1), .slice (some ⟨b1, 0, none⟩) (cap.toNat + 1) (cap.toNat + 1), .slice none 0 0, .int .u32 0] 233 :: Own 4 1 (bos (List.replicate (cap.toNat + 1) false)) (some ⟨b2, 0, none⟩) (cap.toNat + 1) :: Own 64 1 (u32s (List.replicate (cap.toNat + 1) 0)) (some ⟨b1, 0, none⟩) (cap.toNat + 1) :: Own 64 1 [] none 0 :: L) w := (hS.nil_ 64 1).sel 4 [1, 1, 1, 0] rfl; replace hS := St.exClose (f := sltF b3 (SM.new cap.toNat)) ⟨some ⟨b2, 0, none⟩, cap.toNat + 1, some ⟨b1, 0, none⟩, cap.toNat + 1, none, 0⟩ (sl_new_close hS))
      replace hS : St g (Slt b3 (SM.new cap.toNat) :: L) w := hS
      refine ⟨[.pointer (some ⟨b3, 0, none⟩), .int .i64 0], ⟨rfl, rfl⟩, ?_⟩
      exact ⟨_, rfl, hS⟩
set_option maxRecDepth 8192 in
theorem sl_alloc_ok {g w : World} {L : List HP} (s : Nat) (S : SM) (hO : SOk S) (hf : 0 < S.free) (hS : St g (Slt s S :: L) w) :
    Sp Tryz.prog 200 [.pointer (some ⟨s, 0, none⟩)] w (fun v w' => v = .tuple #[.int .u32 S.next, .int .i64 0] ∧ St g (Slt s S.alloc :: L) w') := by
  refine Sp.enter Tryz.func200 rfl (by kernel_rfl) (by kernel_rfl) ?_
  refine WC.seq ?_
  refine WC.region ?_
  refine WL.r 2 rfl ?_
  refine WL.nil ?_
  refine WC.seq ?_
  refine WC.seq ?_
  refine WC.region ?_
  refine WL.r 1 rfl ?_
  refine WL.call rfl rfl (sl_free (s := s) (S := S) (hO := (by assumption)) (hS := hS)) rfl ?_
  clear hS; rintro _ w ⟨rfl, hS⟩
  replace hS : St g (Slt s S :: L) w := hS
  refine WL.r 1 rfl ?_
  refine WL.nil ?_
  refine WC.ifF rfl (decide_eq_false ((by omega))) ?_
  refine WC.skip ?_
  refine WC.seq ?_
  refine WC.region ?_
  refine WL.r 1 rfl ?_
  refine WL.nil ?_
  refine WC.seq ?_
  refine WC.seq ?_
  refine WC.region ?_
  have hfr := hO.fr; have hcp : S.cap = (S.used.length : Int) - 1 := rfl; have hle := hO.cap; have hrl := hO.rle; have hnx := S.next_rng hO hf; have hgl := hO.gl
  obtain ⟨⟨ua, uc, ga, gc, ra, rc⟩, hS⟩ := St.exOpen (f := sltF s S) hS; have hbu := bos_len S.used; have hbg := u32s_len S.gen; have hbr := u32s_len S.rel
  replace hS : St g (cel s #[.slice ua (List.length (bos S.used)) uc, .slice ga (List.length (u32s S.gen)) gc, .slice ra (List.length (u32s S.rel)) rc, .int .u32 S.fresh] 233 :: Own 4 1 (bos S.used) ua uc :: Own 64 1 (u32s S.gen) ga gc :: Own 64 1 (u32s S.rel) ra rc :: L) w := hS
  refine WL.run 6 [.slice ra (List.length (u32s S.rel)) rc] rfl (by exact hS.ld 0 rfl rfl) ?_
  refine WL.nw 14 rfl (w64 (by omega)) ?_
  refine WL.r 1 rfl ?_
  refine WL.nil ?_
  as_aux_lemma =>
    refine WC.seq ?_
    refine WC.region ?_
    refine WL.r 2 rfl ?_
    refine WL.nil ?_
    refine WC.cut [0, 2, 3, 4] (fun vs w => ∃ (nx : Int) (rl : List Int) (fr : Int) (ra2 : Option Addr) (rc2 : Nat), vs = [.pointer (some ⟨s, 0, none⟩), .int .u32 0, .int .i64 0, .int .u32 nx] ∧ St g (cel s #[.slice ua (List.length (bos S.used)) uc, .slice ga (List.length (u32s S.gen)) gc, .slice ra2 (List.length (u32s rl)) rc2, .int .u32 fr] 233 :: Own 4 1 (bos S.used) ua uc :: Own 64 1 (u32s S.gen) ga gc :: Own 64 1 (u32s rl) ra2 rc2 :: L) w ∧ (nx = S.next) ∧ (rl = S.alloc.rel) ∧ (fr = S.alloc.fresh)) ?_ ?_
    · refine WC.ifP rfl (fun cd1 => ?_) (fun cd1 => ?_)
      · refine WC.seq ?_
        refine WC.region ?_
        refine WL.run 5 [.slice ra (List.length (u32s S.rel)) rc] rfl (by exact hS.ld 0 rfl rfl) ?_
        have hne : S.rel ≠ [] := (fun e => by have h9 := congrArg List.length e; rw [List.length_nil] at h9; omega); have hx : S.rel[S.rel.length - 1]? = some S.next := by rw [rel_split hne]; simp
        refine WL.ix rfl rfl (i := (List.length (u32s S.rel) : Int) - 1) (S.rel.length - 1) el_32 rfl rfl (by omega) (by omega) (hS.rdO 3 rfl (u32s_at hx)).1 ?_
        refine WL.run 2 [.int .u32 S.next] rfl (by exact (hS.rdO 3 rfl (u32s_at hx)).2 0 _ rfl) ?_
        refine WL.nil ?_
        refine WC.region ?_
        refine WL.run 6 [.slice ra (List.length (u32s S.rel)) rc] rfl (by exact hS.ld 0 rfl rfl) ?_
        refine WL.slOwn rfl rfl (v := (List.length (u32s S.rel) : Int) - 1) 3 (S.rel.length - 1) (u32s (S.rel.take (S.rel.length - 1))) el_32 hS rfl rfl rfl (by omega) (by omega) (u32s_take _ _) (fun hS => ?_)
        replace hS : St g (cel s #[.slice ua (List.length (bos S.used)) uc, .slice ga (List.length (u32s S.gen)) gc, .slice ra (List.length (u32s S.rel)) rc, .int .u32 S.fresh] 233 :: Own 4 1 (bos S.used) ua uc :: Own 64 1 (u32s S.gen) ga gc :: Own 64 1 (u32s (S.rel.take ((List.length S.rel) - 1))) ra rc :: L) w := hS
        refine WL.r 2 rfl ?_
        refine WL.st rfl rfl rfl 0 hS rfl rfl rfl rfl rfl rfl (fun w hS => ?_)
        replace hS : St g (cel s #[.slice ua (List.length (bos S.used)) uc, .slice ga (List.length (u32s S.gen)) gc, .slice ra (List.length (u32s (S.rel.take ((List.length S.rel) - 1)))) rc, .int .u32 S.fresh] 233 :: Own 4 1 (bos S.used) ua uc :: Own 64 1 (u32s S.gen) ga gc :: Own 64 1 (u32s (S.rel.take ((List.length S.rel) - 1))) ra rc :: L) w := hS
        refine WL.nil ?_
        exact ⟨S.next, S.rel.take (S.rel.length - 1), S.fresh, ra, rc, rfl, hS, (rfl), (List.dropLast_eq_take (l := S.rel)).symm, (if_neg hne).symm⟩
      · refine WC.seq ?_
        refine WC.region ?_
        refine WL.run 5 [.int .u32 S.fresh] rfl (by exact hS.ld 0 rfl rfl) ?_
        refine WL.nw 37 rfl (wu32 (by omega)) ?_
        refine WL.r 2 rfl ?_
        refine WL.st rfl rfl rfl 0 hS rfl rfl rfl rfl rfl rfl (fun w hS => ?_)
        replace hS : St g (cel s #[.slice ua (List.length (bos S.used)) uc, .slice ga (List.length (u32s S.gen)) gc, .slice ra (List.length (u32s S.rel)) rc, .int .u32 (S.fresh + 1)] 233 :: Own 4 1 (bos S.used) ua uc :: Own 64 1 (u32s S.gen) ga gc :: Own 64 1 (u32s S.rel) ra rc :: L) w := hS
        refine WL.nil ?_
        refine WC.region ?_
        refine WL.run 5 [.int .u32 (S.fresh + 1)] rfl (by exact hS.ld 0 rfl rfl) ?_
        refine WL.nil ?_
        exact ⟨S.fresh + 1, S.rel, S.fresh + 1, ra, rc, rfl, hS, (SM.next_nil (rel_nil cd1)).symm, (by show S.rel = S.rel.dropLast; rw [rel_nil cd1]; rfl), (if_pos (rel_nil cd1)).symm⟩
    clear hS; rintro _ w j ⟨nx, rl, fr, ra2, rc2, rfl, hS, hnx, hrl, hfr⟩
    refine WC.seq ?_
    refine WC.region ?_
    refine WL.run 5 [.slice ua (List.length (bos S.used)) uc] rfl (by exact hS.ld 0 rfl rfl) ?_
    obtain ⟨u, hu⟩ : ∃ u, S.used[nx.toNat]? = some u := ⟨_, List.getElem?_eq_getElem (by omega)⟩
    refine WL.ix rfl rfl (i := nx) (nx.toNat) el_33 rfl rfl (by omega) (by omega) (hS.rdO 1 rfl (bos_at hu)).1 ?_
    refine WL.stE rfl rfl rfl 1 (nx.toNat) 0 [.bool u] (bos (S.used.set nx.toNat true)) hS rfl (bos_at hu) rfl rfl rfl rfl rfl (bos_set _ _ _) (fun w hS => ?_)
    replace hS : St g (cel s #[.slice ua (List.length (bos S.used)) uc, .slice ga (List.length (u32s S.gen)) gc, .slice ra2 (List.length (u32s rl)) rc2, .int .u32 fr] 233 :: Own 4 1 (bos (S.used.set nx.toNat true)) ua uc :: Own 64 1 (u32s S.gen) ga gc :: Own 64 1 (u32s rl) ra2 rc2 :: L) w := hS
    refine WL.nil ?_
    refine WC.seq ?_
    refine WC.region ?_
    refine WL.run 5 [.slice ga (List.length (u32s S.gen)) gc] rfl (by exact hS.ld 0 rfl rfl) ?_
    obtain ⟨v, hv⟩ : ∃ v, S.gen[nx.toNat]? = some v := ⟨_, List.getElem?_eq_getElem (by omega)⟩
    refine WL.ix rfl rfl (i := nx) (nx.toNat) el_32 rfl rfl (by omega) (by omega) (hS.rdO 2 rfl (u32s_at hv)).1 ?_
    refine WL.run 2 [.int .u32 v] rfl (by exact (hS.rdO 2 rfl (u32s_at hv)).2 0 _ rfl) ?_
    refine WL.reb 57 (.int .u32 ((v + 1) % 4294967296)) (congrArg (Value.int .u32) (by rfl)) ?_
    refine WL.ix rfl rfl (i := nx) (nx.toNat) el_32 rfl rfl (by omega) (by omega) (hS.rdO 2 rfl (u32s_at hv)).1 ?_
    refine WL.stE rfl rfl rfl 2 (nx.toNat) 0 [.int .u32 v] (u32s (S.gen.set nx.toNat ((v + 1) % 4294967296))) hS rfl (u32s_at hv) rfl rfl rfl rfl rfl (u32s_set _ _ _) (fun w hS => ?_)
    replace hS : St g (cel s #[.slice ua (List.length (bos S.used)) uc, .slice ga (List.length (u32s S.gen)) gc, .slice ra2 (List.length (u32s rl)) rc2, .int .u32 fr] 233 :: Own 4 1 (bos (S.used.set nx.toNat true)) ua uc :: Own 64 1 (u32s (S.gen.set nx.toNat ((v + 1) % 4294967296))) ga gc :: Own 64 1 (u32s rl) ra2 rc2 :: L) w := hS
    refine WL.nil ?_
    as_aux_lemma =>
      refine WC.seq ?_
      refine WC.region ?_
      refine WL.r 3 rfl ?_
      refine WL.nil ?_
      refine WC.ret ?_
      replace hS := St.exClose (f := sltF s S.alloc) ⟨ua, uc, ga, gc, ra2, rc2⟩ (by
        subst hnx; subst hrl; subst hfr
        have hge : S.genOf S.next = v := by unfold SM.genOf; rw [hv]; rfl
        have e1 : (bos S.alloc.used).length = (bos S.used).length := by simp [SM.alloc]
        have e2 : (u32s S.alloc.gen).length = (u32s S.gen).length := by simp [SM.alloc]
        have e3 : S.alloc.gen = S.gen.set S.next.toNat ((v + 1) % 4294967296) := by rw [← hge]; rfl
        unfold sltF
        rw [e1, e2, e3]
        exact hS)
      replace hS : St g (Slt s S.alloc :: L) w := hS
      refine ⟨[.int .u32 nx, .int .i64 0], ⟨rfl, rfl⟩, ?_⟩
      exact ⟨by rw [hnx]; rfl, hS⟩
set_option maxRecDepth 8192 in
theorem sl_release_ok {g w : World} {L : List HP} (s : Nat) (S : SM) (i : Int) (hO : SOk S) (hi : 0 ≤ i ∧ i < 4294967296) (hn : S.ok i = true) (hS : St g (Slt s S :: L) w) :
    Sp Tryz.prog 132 [.pointer (some ⟨s, 0, none⟩), .int .u32 i] w (fun v w' => v = .int .i64 0 ∧ St g (Slt s (S.release i) :: L) w') := by
  refine Sp.enter Tryz.func132 rfl (by kernel_rfl) (by kernel_rfl) ?_
  refine WC.seq ?_
  refine WC.region ?_
  refine WL.r 1 rfl ?_
  refine WL.nil ?_
  refine WC.seq ?_
  refine WC.seq ?_
  refine WC.region ?_
  refine WL.r 2 rfl ?_
  refine WL.call rfl rfl (sl_ok (s := s) (S := S) (i := i) (hl := (by first | assumption | exact SOk.le (by assumption))) (hi := (by omega)) (hS := hS)) rfl ?_
  clear hS; rintro _ w ⟨rfl, hS⟩
  replace hS : St g (Slt s S :: L) w := hS
  refine WL.r 1 rfl ?_
  refine WL.nil ?_
  refine WC.ifF rfl (by rw [hn]; decide) ?_
  refine WC.skip ?_
  refine WC.seq ?_
  refine WC.region ?_
  have hrg := SM.ok_rng hO hi.1 hn; have hrl := hO.rle
  obtain ⟨⟨ua, uc, ga, gc, ra, rc⟩, hS⟩ := St.exOpen (f := sltF s S) hS; have hbu := bos_len S.used; have hbg := u32s_len S.gen; have hbr := u32s_len S.rel
  replace hS : St g (cel s #[.slice ua (List.length (bos S.used)) uc, .slice ga (List.length (u32s S.gen)) gc, .slice ra (List.length (u32s S.rel)) rc, .int .u32 S.fresh] 233 :: Own 4 1 (bos S.used) ua uc :: Own 64 1 (u32s S.gen) ga gc :: Own 64 1 (u32s S.rel) ra rc :: L) w := hS
  refine WL.run 5 [.slice ua (List.length (bos S.used)) uc] rfl (by exact hS.ld 0 rfl rfl) ?_
  obtain ⟨u, hu⟩ : ∃ u, S.used[i.toNat]? = some u := ⟨_, List.getElem?_eq_getElem (by omega)⟩
  refine WL.ix rfl rfl (i := i) (i.toNat) el_33 rfl rfl (by omega) (by omega) (hS.rdO 1 rfl (bos_at hu)).1 ?_
  refine WL.stE rfl rfl rfl 1 (i.toNat) 0 [.bool u] (bos (S.used.set i.toNat false)) hS rfl (bos_at hu) rfl rfl rfl rfl rfl (bos_set _ _ _) (fun w hS => ?_)
  replace hS : St g (cel s #[.slice ua (List.length (bos S.used)) uc, .slice ga (List.length (u32s S.gen)) gc, .slice ra (List.length (u32s S.rel)) rc, .int .u32 S.fresh] 233 :: Own 4 1 (bos (S.used.set i.toNat false)) ua uc :: Own 64 1 (u32s S.gen) ga gc :: Own 64 1 (u32s S.rel) ra rc :: L) w := hS
  refine WL.nil ?_
  as_aux_lemma =>
    refine WC.seq ?_
    refine WC.region ?_
    refine WL.run 6 [.slice ra (List.length (u32s S.rel)) rc] rfl (by exact hS.ld 0 rfl rfl) ?_
    refine WL.lit rfl rfl (u32s [i]) el_32 hS (by exact ⟨rfl, rfl⟩) (u32s_ok _) rfl (by decide) (fun b1 w hS => ?_)
    refine WL.app rfl rfl 4 (u32s (S.rel ++ [i])) el_32 hS rfl (hS.srcO 0 rfl) (u32s_app _ _).symm (Rm.of (by first | omega | (simp <;> omega)) (by decide)) rfl rfl (fun a1 c1 w hS => ?_)
    replace hS : St g (Own 64 1 (u32s [i]) (some ⟨b1, 0, none⟩) (List.length (u32s [i])) :: cel s #[.slice ua (List.length (bos S.used)) uc, .slice ga (List.length (u32s S.gen)) gc, .slice ra (List.length (u32s S.rel)) rc, .int .u32 S.fresh] 233 :: Own 4 1 (bos (S.used.set i.toNat false)) ua uc :: Own 64 1 (u32s S.gen) ga gc :: Own 64 1 (u32s (S.rel ++ [i])) a1 c1 :: L) w := hS
    refine WL.r 2 rfl ?_
    refine WL.st rfl rfl rfl 1 hS rfl rfl rfl rfl rfl rfl (fun w hS => ?_)
    replace hS : St g (Own 64 1 (u32s [i]) (some ⟨b1, 0, none⟩) (List.length (u32s [i])) :: cel s #[.slice ua (List.length (bos S.used)) uc, .slice ga (List.length (u32s S.gen)) gc, .slice a1 (List.length (u32s (S.rel ++ [i]))) c1, .int .u32 S.fresh] 233 :: Own 4 1 (bos (S.used.set i.toNat false)) ua uc :: Own 64 1 (u32s S.gen) ga gc :: Own 64 1 (u32s (S.rel ++ [i])) a1 c1 :: L) w := hS
    refine WL.nil ?_
    refine WC.seq ?_
    refine WC.region ?_
    refine WL.r 1 rfl ?_
    refine WL.nil ?_
    refine WC.ret ?_
    replace hS := St.exClose (f := sltF s (S.release i)) ⟨ua, uc, ga, gc, a1, c1⟩ (by
      have e1 : (bos (S.release i).used).length = (bos S.used).length := by simp [SM.release]
      unfold sltF
      rw [e1]
      exact hS.sel 5 [1, 1, 1, 1] rfl)
    replace hS : St g (Slt s (S.release i) :: L) w := hS
    refine ⟨[.int .i64 0], rfl, ?_⟩
    exact ⟨rfl, hS⟩
end Go.Proofs.YtlnlnebibgdjdaaGreat
/-! ## R1 -/
namespace Go.Proofs.YtlnlnebibgdjdaaGreat
open Go Go.V
theorem arn_new1 {n : Nat} : (nds (AM.new n).nodes).length = n + 1 := by simp [AM.new]
theorem arn_new2 {n : Nat} : (i64s (AM.new n).cnt).length = n + 1 := by simp [AM.new]
set_option maxRecDepth 8192 in
theorem ar_new_ok {g w : World} {L : List HP} (cap : Int) (hc : 1 ≤ cap ∧ cap ≤ 65536) (hS : St g (L) w) :
    Sp Tryz.prog 50 [.int .i64 cap] w (fun v w' => ∃ (a : Nat), v = .tuple #[.pointer (some ⟨a, 0, none⟩), .int .i64 0] ∧ St g (Arn a (AM.new cap.toNat) :: L) w') := by
  refine Sp.enter Tryz.func50 rfl (by kernel_rfl) (by kernel_rfl) ?_
  refine WC.seq ?_
  refine WC.region ?_
  refine WL.r 2 rfl ?_
  refine WL.nil ?_
  refine WC.seq ?_
  refine WC.region ?_
  refine WL.r 1 rfl ?_
  refine WL.call rfl rfl (sl_new_ok (cap := cap) (hc := hc) (hS := hS)) rfl ?_
  clear hS; rintro _ w ⟨s1, rfl, hS⟩
  replace hS : St g (Slt s1 (SM.new cap.toNat) :: L) w := hS
  refine WL.r 5 rfl ?_
  refine WL.nil ?_
  refine WC.seq ?_
  refine WC.seq ?_
  refine WC.region ?_
  refine WL.r 2 rfl ?_
  refine WL.nil ?_
  refine WC.ifF rfl (decide_eq_false ((by decide))) ?_
  refine WC.skip ?_
  refine WC.seq ?_
  refine WC.tree (.two [0, 1, 4, 2, 5] 3 [0, 4, 5] (.one [] 6 [0, 1, 2] (.one [7] 8 [] (.seg [9, 10] .nil))) 6 [0, 1, 2] (.one [] 3 [0, 4, 5] (.one [7] 8 [] (.seg [9, 10] .nil)))) (by kernel_rfl) (by kernel_rfl) ?_
  refine WQ.r 4 rfl ?_
  refine WQ.nw 16 rfl (w64 (by omega)) ?_
  refine WQ.r 1 rfl ?_
  refine WQ.nw 19 rfl (w64 (by omega)) ?_
  refine WQ.nil ?_
  intro m1
  replace hS := hS.drewN m1; generalize hwm1 : World.drewN _ _ = w at *; clear hwm1
  refine ⟨?_, ?_⟩
  · refine WL.make rfl rfl (v := cap + 1) (v' := cap + 1) (cap.toNat + 1) (cap.toNat + 1) el_151 hS rfl (by omega) rfl (by omega) (by omega) (Rm.of (by omega) (by decide)) (fun b1 w hS => ?_)
    replace hS : St g (Own 165 8 (List.replicate (cap.toNat + 1) [.int .i64 0, .int .i64 0, .int .u32 0, .int .u32 0, .int .i64 0, .int .i64 0, .int .i64 0, .int .i64 0]) (some ⟨b1, 0, none⟩) (cap.toNat + 1) :: Slt s1 (SM.new cap.toNat) :: L) w := hS
    refine WL.nil ?_
    refine ⟨by exact ⟨RQ.pure rfl rfl rfl rfl, RQ.pure rfl rfl rfl rfl, RQ.pure rfl rfl rfl (congrArg (Value.int .i64) (Eq.symm (w64 (by omega))))⟩, ?_⟩
    refine WQ.nil ?_
    intro m2
    replace hS := hS.drewN m2; generalize hwm2 : World.drewN _ _ = w at *; clear hwm2
    refine WL.make rfl rfl (v := cap + 1) (v' := cap + 1) (cap.toNat + 1) (cap.toNat + 1) el_56 hS rfl (by omega) rfl (by omega) (by omega) (Rm.of (by omega) (by decide)) (fun b2 w hS => ?_)
    replace hS : St g (Own 3 1 (List.replicate (cap.toNat + 1) [.int .i64 0]) (some ⟨b2, 0, none⟩) (cap.toNat + 1) :: Own 165 8 (List.replicate (cap.toNat + 1) [.int .i64 0, .int .i64 0, .int .u32 0, .int .u32 0, .int .i64 0, .int .i64 0, .int .i64 0, .int .i64 0]) (some ⟨b1, 0, none⟩) (cap.toNat + 1) :: Slt s1 (SM.new cap.toNat) :: L) w := hS
    refine WL.nil ?_
    refine ⟨by exact ⟨RQ.pure rfl rfl rfl rfl, RQ.pure rfl rfl rfl rfl, RQ.pure rfl rfl rfl (congrArg (Value.int .i64) (Eq.symm (w64 (by omega))))⟩, ?_⟩
    refine WQ.build rfl rfl (cs := [.pointer (some ⟨s1, 0, none⟩), .slice (some ⟨b1, 0, none⟩) (cap.toNat + 1) (cap.toNat + 1), .slice (some ⟨b2, 0, none⟩) (cap.toNat + 1) (cap.toNat + 1), .int .u64 0]) zv_153 rfl rfl ?_
    refine WQ.nil ?_
    intro m3
    replace hS := hS.drewN m3; generalize hwm3 : World.drewN _ _ = w at *; clear hwm3
    refine WL.box rfl rfl #[.pointer (some ⟨s1, 0, none⟩), .slice (some ⟨b1, 0, none⟩) (cap.toNat + 1) (cap.toNat + 1), .slice (some ⟨b2, 0, none⟩) (cap.toNat + 1) (cap.toNat + 1), .int .u64 0] hS rfl rfl (fun b3 w hS => ?_)
    refine WL.nil ?_
    refine ⟨by exact trivial, ?_⟩
    refine WQ.r 2 rfl ?_
    refine WQ.nil ?_
    intro m4
    replace hS := hS.drewN m4; generalize hwm4 : World.drewN _ _ = w at *; clear hwm4
    as_aux_lemma =>
      refine WC.ret ?_
      rw [nds_rep, i64s_rep] at hS
      first
      | (replace hS := St.exClose (f := arnF b3 (AM.new cap.toNat)) ⟨s1, some ⟨b1, 0, none⟩, cap.toNat + 1, some ⟨b2, 0, none⟩, cap.toNat + 1, 0⟩ (by
          unfold arnF
          rw [arn_new1, arn_new2]
          exact hS.sel 4 [0, 2, 1, 0] rfl))
      | (replace hS := St.exClose (f := arnF b3 (AM.new cap.toNat)) ⟨s1, some ⟨b2, 0, none⟩, cap.toNat + 1, some ⟨b1, 0, none⟩, cap.toNat + 1, 0⟩ (by
          unfold arnF
          rw [arn_new1, arn_new2]
          exact hS.sel 4 [0, 2, 0, 0] rfl))
      replace hS : St g (Arn b3 (AM.new cap.toNat) :: L) w := hS
      refine ⟨[.pointer (some ⟨b3, 0, none⟩), .int .i64 0], ⟨rfl, rfl⟩, ?_⟩
      exact ⟨_, rfl, hS⟩
  · refine WL.make rfl rfl (v := cap + 1) (v' := cap + 1) (cap.toNat + 1) (cap.toNat + 1) el_56 hS rfl (by omega) rfl (by omega) (by omega) (Rm.of (by omega) (by decide)) (fun b1 w hS => ?_)
    replace hS : St g (Own 3 1 (List.replicate (cap.toNat + 1) [.int .i64 0]) (some ⟨b1, 0, none⟩) (cap.toNat + 1) :: Slt s1 (SM.new cap.toNat) :: L) w := hS
    refine WL.nil ?_
    refine ⟨by exact ⟨RQ.pure rfl rfl rfl rfl, RQ.pure rfl rfl rfl rfl, RQ.pure rfl rfl rfl (congrArg (Value.int .i64) (Eq.symm (w64 (by omega))))⟩, ?_⟩
    refine WQ.nil ?_
    intro m2
    replace hS := hS.drewN m2; generalize hwm2 : World.drewN _ _ = w at *; clear hwm2
    refine WL.make rfl rfl (v := cap + 1) (v' := cap + 1) (cap.toNat + 1) (cap.toNat + 1) el_151 hS rfl (by omega) rfl (by omega) (by omega) (Rm.of (by omega) (by decide)) (fun b2 w hS => ?_)
    replace hS : St g (Own 165 8 (List.replicate (cap.toNat + 1) [.int .i64 0, .int .i64 0, .int .u32 0, .int .u32 0, .int .i64 0, .int .i64 0, .int .i64 0, .int .i64 0]) (some ⟨b2, 0, none⟩) (cap.toNat + 1) :: Own 3 1 (List.replicate (cap.toNat + 1) [.int .i64 0]) (some ⟨b1, 0, none⟩) (cap.toNat + 1) :: Slt s1 (SM.new cap.toNat) :: L) w := hS
    refine WL.nil ?_
    refine ⟨by exact ⟨RQ.pure rfl rfl rfl rfl, RQ.pure rfl rfl rfl rfl, RQ.pure rfl rfl rfl (congrArg (Value.int .i64) (Eq.symm (w64 (by omega))))⟩, ?_⟩
    refine WQ.build rfl rfl (cs := [.pointer (some ⟨s1, 0, none⟩), .slice (some ⟨b2, 0, none⟩) (cap.toNat + 1) (cap.toNat + 1), .slice (some ⟨b1, 0, none⟩) (cap.toNat + 1) (cap.toNat + 1), .int .u64 0]) zv_153 rfl rfl ?_
    refine WQ.nil ?_
    intro m3
    replace hS := hS.drewN m3; generalize hwm3 : World.drewN _ _ = w at *; clear hwm3
    refine WL.box rfl rfl #[.pointer (some ⟨s1, 0, none⟩), .slice (some ⟨b2, 0, none⟩) (cap.toNat + 1) (cap.toNat + 1), .slice (some ⟨b1, 0, none⟩) (cap.toNat + 1) (cap.toNat + 1), .int .u64 0] hS rfl rfl (fun b3 w hS => ?_)
    refine WL.nil ?_
    refine ⟨by exact trivial, ?_⟩
    refine WQ.r 2 rfl ?_
    refine WQ.nil ?_
    intro m4
    replace hS := hS.drewN m4; generalize hwm4 : World.drewN _ _ = w at *; clear hwm4
    as_aux_lemma =>
      refine WC.ret ?_
      rw [nds_rep, i64s_rep] at hS
      first
      | (replace hS := St.exClose (f := arnF b3 (AM.new cap.toNat)) ⟨s1, some ⟨b1, 0, none⟩, cap.toNat + 1, some ⟨b2, 0, none⟩, cap.toNat + 1, 0⟩ (by
          unfold arnF
          rw [arn_new1, arn_new2]
          exact hS.sel 4 [0, 2, 1, 0] rfl))
      | (replace hS := St.exClose (f := arnF b3 (AM.new cap.toNat)) ⟨s1, some ⟨b2, 0, none⟩, cap.toNat + 1, some ⟨b1, 0, none⟩, cap.toNat + 1, 0⟩ (by
          unfold arnF
          rw [arn_new1, arn_new2]
          exact hS.sel 4 [0, 2, 0, 0] rfl))
      replace hS : St g (Arn b3 (AM.new cap.toNat) :: L) w := hS
      refine ⟨[.pointer (some ⟨b3, 0, none⟩), .int .i64 0], ⟨rfl, rfl⟩, ?_⟩
      exact ⟨_, rfl, hS⟩
set_option maxRecDepth 8192 in
theorem ar_free {g w : World} {L : List HP} (a : Nat) (A : AM) (hA : AWf A) (hS : St g (Arn a A :: L) w) :
    Sp Tryz.prog 15 [.pointer (some ⟨a, 0, none⟩)] w (fun v w' => v = .int .i64 A.s.free ∧ St g (Arn a A :: L) w') := by
  refine Sp.enter Tryz.func15 rfl (by kernel_rfl) (by kernel_rfl) ?_
  refine WC.seq ?_
  refine WC.region ?_
  obtain ⟨⟨p, na, nc, ca, cc, rd⟩, hS⟩ := St.exOpen (f := arnF a A) hS; have hAs := hA.s; have hcp := hAs.cap; have hnl := hA.nl; have hcl := hA.cl; have hbn := nds_len A.nodes; have hbc := i64s_len A.cnt
  replace hS : St g (cel a #[.pointer (some ⟨p, 0, none⟩), .slice na (List.length (nds A.nodes)) nc, .slice ca (List.length (i64s A.cnt)) cc, .int .u64 rd] 153 :: Slt p A.s :: Own 165 8 (nds A.nodes) na nc :: Own 3 1 (i64s A.cnt) ca cc :: L) w := hS
  refine WL.r 1 rfl ?_
  refine WL.nil ?_
  refine WC.seq ?_
  refine WC.region ?_
  refine WL.run 4 [.pointer (some ⟨p, 0, none⟩)] rfl (by exact hS.ld 0 rfl rfl) ?_
  refine WL.call rfl rfl (sl_free (s := p) (S := A.s) (hO := (by assumption)) (hS := (hS.sel 2 [1, 0] rfl))) rfl ?_
  clear hS; rintro _ w ⟨rfl, hS⟩
  replace hS : St g (Slt p A.s :: cel a #[.pointer (some ⟨p, 0, none⟩), .slice na (List.length (nds A.nodes)) nc, .slice ca (List.length (i64s A.cnt)) cc, .int .u64 rd] 153 :: Own 165 8 (nds A.nodes) na nc :: Own 3 1 (i64s A.cnt) ca cc :: L) w := hS
  refine WL.r 1 rfl ?_
  refine WL.nil ?_
  refine WC.ret ?_
  replace hS := St.exClose (f := arnF a A) ⟨p, na, nc, ca, cc, rd⟩ (by first | exact hS | exact hS.sel 4 [1, 0, 0, 0] rfl)
  replace hS : St g (Arn a A :: L) w := hS
  refine ⟨[.int .i64 A.s.free], rfl, ?_⟩
  exact ⟨rfl, hS⟩
set_option maxRecDepth 8192 in
theorem ar_retain {g w : World} {L : List HP} (a : Nat) (A : AM) (i : Int) (hA : AWf A) (hi : 0 ≤ i ∧ i < 4294967296) (hS : St g (Arn a A :: L) w) :
    Sp Tryz.prog 64 [.pointer (some ⟨a, 0, none⟩), .int .u32 i] w (fun v w' => v = .int .i64 (A.retE i) ∧ St g (Arn a (A.ret i) :: L) w') := by
  refine Sp.enter Tryz.func64 rfl (by kernel_rfl) (by kernel_rfl) ?_
  refine WC.seq ?_
  refine WC.region ?_
  obtain ⟨⟨p, na, nc, ca, cc, rd⟩, hS⟩ := St.exOpen (f := arnF a A) hS; have hAs := hA.s; have hcp := hAs.cap; have hnl := hA.nl; have hcl := hA.cl; have hbn := nds_len A.nodes; have hbc := i64s_len A.cnt
  replace hS : St g (cel a #[.pointer (some ⟨p, 0, none⟩), .slice na (List.length (nds A.nodes)) nc, .slice ca (List.length (i64s A.cnt)) cc, .int .u64 rd] 153 :: Slt p A.s :: Own 165 8 (nds A.nodes) na nc :: Own 3 1 (i64s A.cnt) ca cc :: L) w := hS
  refine WL.r 1 rfl ?_
  refine WL.nil ?_
  refine WC.seq ?_
  refine WC.seq ?_
  refine WC.region ?_
  refine WL.r 2 rfl ?_
  refine WL.nil ?_
  refine WC.ifP rfl (fun cd1 => ?_) (fun cd1 => ?_)
  · refine WC.seq ?_
    refine WC.region ?_
    refine WL.r 1 rfl ?_
    refine WL.nil ?_
    refine WC.ret ?_
    replace hS := St.exClose (f := arnF a A) ⟨p, na, nc, ca, cc, rd⟩ hS; replace hS : St g (Arn a (A.ret i) :: L) w := by rw [AM.ret, if_neg (fun h => h.1 cd1)]; exact hS
    replace hS : St g (Arn a (A.ret i) :: L) w := hS
    refine ⟨[.int .i64 0], rfl, ?_⟩
    exact ⟨congrArg (Value.int .i64) (if_pos (.inl cd1)).symm, hS⟩
  · refine WC.skip ?_
    refine WC.seq ?_
    refine WC.seq ?_
    refine WC.region ?_
    refine WL.run 5 [.pointer (some ⟨p, 0, none⟩)] rfl (by exact hS.ld 0 rfl rfl) ?_
    refine WL.call rfl rfl (sl_ok (s := p) (S := A.s) (i := i) (hl := (by first | assumption | exact SOk.le (by assumption))) (hi := (by omega)) (hS := (hS.sel 2 [1, 0] rfl))) rfl ?_
    clear hS; rintro _ w ⟨rfl, hS⟩
    replace hS : St g (Slt p A.s :: cel a #[.pointer (some ⟨p, 0, none⟩), .slice na (List.length (nds A.nodes)) nc, .slice ca (List.length (i64s A.cnt)) cc, .int .u64 rd] 153 :: Own 165 8 (nds A.nodes) na nc :: Own 3 1 (i64s A.cnt) ca cc :: L) w := hS
    refine WL.r 1 rfl ?_
    refine WL.nil ?_
    refine WC.if_ rfl (fun cd2 => ?_) (fun cd2 => ?_)
    · refine WC.seq ?_
      refine WC.region ?_
      refine WL.r 1 rfl ?_
      refine WL.nil ?_
      as_aux_lemma =>
        refine WC.ret ?_
        replace hS := St.exClose (f := arnF a A) ⟨p, na, nc, ca, cc, rd⟩ (by first | exact hS | exact hS.sel 4 [1, 0, 0, 0] rfl); replace hS : St g (Arn a (A.ret i) :: L) w := by rw [AM.ret, if_neg (fun h => by rw [h.2] at cd2; cases cd2)]; exact hS
        replace hS : St g (Arn a (A.ret i) :: L) w := hS
        refine ⟨[.int .i64 3], rfl, ?_⟩
        exact ⟨congrArg (Value.int .i64) (if_neg (fun h => h.elim cd1 (fun k => by rw [k] at cd2; cases cd2))).symm, hS⟩
    · refine WC.skip ?_
      as_aux_lemma =>
        refine WC.seq ?_
        refine WC.region ?_
        have hik := SM.ok_rng hAs hi.1 (by simpa using cd2)
        refine WL.run 5 [.slice ca (List.length (i64s A.cnt)) cc] rfl (by exact hS.ld 1 rfl rfl) ?_
        obtain ⟨x, hx⟩ : ∃ x, A.cnt[i.toNat]? = some x := ⟨_, List.getElem?_eq_getElem (by omega)⟩
        refine WL.ix rfl rfl (i := i) (i.toNat) el_56 rfl rfl (by omega) (by omega) (hS.rdO 3 rfl (i64s_at hx)).1 ?_
        refine WL.run 2 [.int .i64 x] rfl (by exact (hS.rdO 3 rfl (i64s_at hx)).2 0 _ rfl) ?_
        refine WL.ix rfl rfl (i := i) (i.toNat) el_56 rfl rfl (by omega) (by omega) (hS.rdO 3 rfl (i64s_at hx)).1 ?_
        refine WL.stE rfl rfl rfl 3 (i.toNat) 0 [.int .i64 x] (i64s (A.cnt.set i.toNat (IntKind.i64.wrap (x + 1)))) hS rfl (i64s_at hx) rfl rfl rfl rfl rfl (i64s_set _ _ _) (fun w hS => ?_)
        replace hS : St g (Slt p A.s :: cel a #[.pointer (some ⟨p, 0, none⟩), .slice na (List.length (nds A.nodes)) nc, .slice ca (List.length (i64s A.cnt)) cc, .int .u64 rd] 153 :: Own 165 8 (nds A.nodes) na nc :: Own 3 1 (i64s (A.cnt.set i.toNat (IntKind.i64.wrap (x + 1)))) ca cc :: L) w := hS
        refine WL.nil ?_
        refine WC.seq ?_
        refine WC.region ?_
        refine WL.r 1 rfl ?_
        refine WL.nil ?_
        refine WC.ret ?_
        replace hS := St.exClose (f := arnF a (A.inc i)) ⟨p, na, nc, ca, cc, rd⟩ (by
          have e1 : (i64s (A.inc i).cnt).length = (i64s A.cnt).length := by simp [AM.inc]
          have e2 : (A.inc i).cnt = A.cnt.set i.toNat (IntKind.i64.wrap (x + 1)) := by unfold AM.inc AM.cntOf; rw [hx]; rfl
          unfold arnF
          rw [e1, e2]
          first | exact hS | exact hS.sel 4 [1, 0, 0, 0] rfl)
        replace hS : St g (Arn a (A.ret i) :: L) w := by rw [AM.ret, if_pos ⟨cd1, by simpa using cd2⟩]; exact hS
        replace hS : St g (Arn a (A.ret i) :: L) w := hS
        refine ⟨[.int .i64 0], rfl, ?_⟩
        exact ⟨congrArg (Value.int .i64) (if_pos (.inr (by simpa using cd2))).symm, hS⟩
set_option maxRecDepth 8192 in
theorem ar_release0 {g w : World} {L : List HP} (a : Nat) (A : AM) (hS : St g (Arn a A :: L) w) :
    Sp Tryz.prog 73 [.pointer (some ⟨a, 0, none⟩), .int .u32 0] w (fun v w' => v = .tuple #[.int .i64 0, .int .i64 0] ∧ St g (Arn a A :: L) w') := by
  refine Sp.enter Tryz.func73 rfl (by kernel_rfl) (by kernel_rfl) ?_
  refine WC.seq ?_
  refine WC.region ?_
  refine WL.r 2 rfl ?_
  refine WL.nil ?_
  refine WC.seq ?_
  refine WC.seq ?_
  refine WC.region ?_
  refine WL.r 2 rfl ?_
  refine WL.nil ?_
  refine WC.ifT rfl (decide_eq_true ((by decide))) ?_
  refine WC.seq ?_
  refine WC.region ?_
  refine WL.r 2 rfl ?_
  refine WL.nil ?_
  refine WC.ret ?_
  refine ⟨[.int .i64 0, .int .i64 0], ⟨rfl, rfl⟩, ?_⟩
  exact ⟨rfl, hS⟩
end Go.Proofs.YtlnlnebibgdjdaaGreat
/-! ## R2 -/
namespace Go.Proofs.YtlnlnebibgdjdaaGreat
open Go Go.V
structure Shr (A B : AM) : Prop where
  ok : ∀ j, 0 ≤ j → B.s.ok j = true → A.s.ok j = true ∧ B.nd j = A.nd j
  cap : B.s.used.length = A.s.used.length
  gen : B.s.gen = A.s.gen
theorem Shr.refl (A : AM) : Shr A A := ⟨fun _ _ h => ⟨h, rfl⟩, rfl, rfl⟩
theorem Shr.dec {A B : AM} (h : Shr A B) (k : Int) : Shr A (B.dec k) := ⟨h.ok, h.cap, h.gen⟩
theorem Shr.free {A B : AM} {k : Int} (h : Shr A B) (hB : AWf B) (hk : B.s.ok k = true) (h0 : 0 ≤ k) : Shr A (B.freed k) := ⟨fun j hj hjk => by
  rw [AM.freed_ok hB.s hk h0 j hj] at hjk
  split at hjk
  · cases hjk
  · rename_i e
    have h1 := h.ok j hj hjk
    refine ⟨h1.1, ?_⟩
    unfold AM.freed
    rw [AM.nd_set (by rw [hB.nl]; exact (SM.ok_rng hB.s h0 hk).2.2.2) h0 hj, if_neg e]
    exact h1.2, by rw [← h.cap]; exact List.length_set, h.gen⟩
theorem last_split {W : List Int} {k : Int} (h : W[W.length - 1]? = some k) : W = W.take (W.length - 1) ++ [k] := by
  have hl := (List.getElem?_eq_some_iff.1 h).1
  have h1 := List.take_append_drop (W.length - 1) W
  rw [List.drop_eq_getElem_cons hl, (List.getElem?_eq_some_iff.1 h).2, List.drop_of_length_le (by omega)] at h1
  exact h1.symm
theorem push_ok {B : AM} {R T : List Int} {l r : Int} (h : ARf B (l :: r :: (T ++ R))) : ARf B ((T ++ (if r ≠ 0 then [r] else []) ++ (if l ≠ 0 then [l] else [])) ++ R) := by
  have pr : (r :: (T ++ R)).Perm ((T ++ [r]) ++ R) := by simpa using (List.perm_middle (a := r) (l₁ := T) (l₂ := R)).symm
  have pl : (l :: (T ++ R)).Perm ((T ++ [l]) ++ R) := by simpa using (List.perm_middle (a := l) (l₁ := T) (l₂ := R)).symm
  by_cases hl : l = 0
  · by_cases hr : r = 0
    · subst hl; subst hr; simpa using h.tail0.tail0
    · subst hl
      have h1 := h.tail0.perm pr
      simpa [hr] using h1
  · by_cases hr : r = 0
    · subst hr
      have h0 : ARf B (0 :: l :: (T ++ R)) := h.perm (List.Perm.swap _ _ _)
      have h1 := h0.tail0.perm pl
      simpa [hl] using h1
    · have p2 : (l :: ((T ++ [r]) ++ R)).Perm (((T ++ [r]) ++ [l]) ++ R) := by simpa using (List.perm_middle (a := l) (l₁ := T ++ [r]) (l₂ := R)).symm
      have h1 := h.perm ((List.Perm.cons l pr).trans p2)
      simpa [hl, hr] using h1
theorem all_app {p : Int → Prop} {T : List Int} {r : Int} (h : ∀ x ∈ T, p x) (hr : p r) : ∀ x ∈ T ++ [r], p x := fun x hx => by
  rcases List.mem_append.1 hx with hx | hx
  · exact h x hx
  · rw [List.mem_singleton.1 hx]; exact hr
set_option maxHeartbeats 2000000 in
set_option maxRecDepth 8192 in
theorem ar_release_ok {g w : World} {L : List HP} (a : Nat) (A : AM) (R : List Int) (i : Int) (hA : ARf A (i :: R)) (hi : 1 ≤ i ∧ i < 4294967296) (hR : R.length ≤ 900000000) (hS : St g (Arn a A :: L) w) :
    Sp Tryz.prog 73 [.pointer (some ⟨a, 0, none⟩), .int .u32 i] w (fun v w' => ∃ (A2 : AM) (f : Int), v = .tuple #[.int .i64 f, .int .i64 0] ∧ St g (Arn a A2 :: L) w' ∧ (ARf A2 R) ∧ (Shr A A2) ∧ (f = A2.s.free - A.s.free)) := by
  refine Sp.enter Tryz.func73 rfl (by kernel_rfl) (by kernel_rfl) ?_
  have _ := hR
  have _ := hi
  refine WC.seq ?_
  refine WC.region ?_
  have hir := (hA.ref i (List.mem_cons_self ..)).resolve_left (by omega)
  refine WL.r 2 rfl ?_
  refine WL.nil ?_
  refine WC.seq ?_
  refine WC.seq ?_
  refine WC.region ?_
  refine WL.r 2 rfl ?_
  refine WL.nil ?_
  refine WC.ifF rfl (decide_eq_false ((by omega))) ?_
  refine WC.skip ?_
  refine WC.seq ?_
  refine WC.seq ?_
  refine WC.region ?_
  obtain ⟨⟨p, na, nc, ca, cc, rd⟩, hS⟩ := St.exOpen (f := arnF a A) hS; have hAs := hA.s; have hcp := hAs.cap; have hnl := hA.nl; have hcl := hA.cl; have hbn := nds_len A.nodes; have hbc := i64s_len A.cnt
  replace hS : St g (cel a #[.pointer (some ⟨p, 0, none⟩), .slice na (List.length (nds A.nodes)) nc, .slice ca (List.length (i64s A.cnt)) cc, .int .u64 rd] 153 :: Slt p A.s :: Own 165 8 (nds A.nodes) na nc :: Own 3 1 (i64s A.cnt) ca cc :: L) w := hS
  refine WL.run 5 [.pointer (some ⟨p, 0, none⟩)] rfl (by exact hS.ld 0 rfl rfl) ?_
  refine WL.call rfl rfl (sl_ok (s := p) (S := A.s) (i := i) (hl := (by first | assumption | exact SOk.le (by assumption))) (hi := (by omega)) (hS := (hS.sel 2 [1, 0] rfl))) rfl ?_
  clear hS; rintro _ w ⟨rfl, hS⟩
  replace hS : St g (Slt p A.s :: cel a #[.pointer (some ⟨p, 0, none⟩), .slice na (List.length (nds A.nodes)) nc, .slice ca (List.length (i64s A.cnt)) cc, .int .u64 rd] 153 :: Own 165 8 (nds A.nodes) na nc :: Own 3 1 (i64s A.cnt) ca cc :: L) w := hS
  refine WL.r 1 rfl ?_
  refine WL.nil ?_
  refine WC.ifF rfl (by rw [hir.2]; decide) ?_
  refine WC.skip ?_
  as_aux_lemma =>
    refine WC.seq ?_
    refine WC.region ?_
    refine WL.r 1 rfl ?_
    refine WL.nil ?_
    refine WC.seq ?_
    refine WC.region ?_
    refine WL.r 1 rfl ?_
    refine WL.lit rfl rfl (u32s [i]) el_32 hS (by exact ⟨rfl, rfl⟩) (u32s_ok _) rfl (by decide) (fun b1 w hS => ?_)
    refine WL.r 1 rfl ?_
    refine WL.nil ?_
    refine WC.seq ?_
    refine WC.block ?_
    refine WC.loop [0, 4, 5, 6, 7] (fun kM vs w => ∃ (W : List Int) (B : AM) (fr : Int) (u : Option Addr) (d : Nat), vs = [.pointer (some ⟨a, 0, none⟩), .int .i64 0, .int .i64 0, .int .i64 fr, .slice u (List.length (u32s W)) d] ∧ St g (Own 64 1 (u32s W) u d :: Slt p B.s :: cel a #[.pointer (some ⟨p, 0, none⟩), .slice na (List.length (nds A.nodes)) nc, .slice ca (List.length (i64s A.cnt)) cc, .int .u64 rd] 153 :: Own 165 8 (nds B.nodes) na nc :: Own 3 1 (i64s B.cnt) ca cc :: L) w ∧ (∀ x ∈ W, 1 ≤ x ∧ x < 4294967296) ∧ (ARf B (W ++ R)) ∧ (Shr A B) ∧ (fr = B.s.free - A.s.free) ∧ (W.length + B.live.length ≤ 65600) ∧ (2 * B.live.length + W.length) = kM) (2 * (List.length A.live) + (List.length [i])) ⟨[i], A, 0, some ⟨b1, 0, none⟩, 1, rfl, hS, (by simp; omega), (by exact hA), (Shr.refl A), (by omega), (by have := A.live_len; simp; omega), rfl⟩ ?_
    clear hS; rintro _ _ w j ⟨W, B, fr, u, d, rfl, hS, hW, hB, hSh, hf, hlen, rfl⟩
    refine WC.seq ?_
    refine WC.seq ?_
    refine WC.region ?_
    refine WL.r 3 rfl ?_
    refine WL.nil ?_
    refine WC.ifP rfl (fun cd1 => ?_) (fun cd1 => ?_)
    · refine WC.skip ?_
      refine WC.block ?_
      refine WC.seq ?_
      refine WC.region ?_
      have hfB := hB.s.free_rng; have hfA := hA.s.free_rng; have hWl := u32s_len W; obtain ⟨k, hk⟩ : ∃ k, W[W.length - 1]? = some k := ⟨_, List.getElem?_eq_getElem (by omega)⟩; have hk1 := hW k (List.mem_of_getElem? hk); have hsp := last_split hk; have hkR := (hB.ref k (List.mem_append_left _ (List.mem_of_getElem? hk))).resolve_left (by omega); have hkr := SM.ok_rng hB.s (by omega) hkR.2; have hle := hB.cnt_le hkR.2 (by omega); obtain ⟨c, hc⟩ : ∃ c, B.cnt[k.toNat]? = some c := ⟨_, List.getElem?_eq_getElem (by rw [hB.cl]; omega)⟩; obtain ⟨nd, hnd⟩ : ∃ nd, B.nodes[k.toNat]? = some nd := ⟨_, List.getElem?_eq_getElem (by rw [hB.nl]; omega)⟩; have hbc2 := i64s_len B.cnt; have hbn2 := nds_len B.nodes; have e1 := hB.cl; have e2 := hB.nl; have e3 := hSh.cap; have hce : B.cntOf k = c := by unfold AM.cntOf; rw [hc]; rfl
      have hpk : ARf B (k :: (W.take (W.length - 1) ++ R)) := hB.perm (by rw [hsp]; simp); have hTl : ∀ x ∈ W.take (W.length - 1), 1 ≤ x ∧ x < 4294967296 := (fun x hx => hW x (List.mem_of_mem_take hx)); have hTn : (W.take (W.length - 1)).length = W.length - 1 := by simp
      refine WL.r 4 rfl ?_
      refine WL.nw 27 rfl (w64 (by omega)) ?_
      refine WL.ix rfl rfl (i := (List.length (u32s W) : Int) - 1) (W.length - 1) el_32 rfl rfl (by omega) (by omega) (hS.rdO 0 rfl (u32s_at hk)).1 ?_
      refine WL.run 2 [.int .u32 k] rfl (by exact (hS.rdO 0 rfl (u32s_at hk)).2 0 _ rfl) ?_
      refine WL.nil ?_
      as_aux_lemma =>
        refine WC.seq ?_
        refine WC.region ?_
        refine WL.r 4 rfl ?_
        refine WL.nw 33 rfl (w64 (by omega)) ?_
        refine WL.slOwn rfl rfl (v := (List.length (u32s W) : Int) - 1) 0 (W.length - 1) (u32s (W.take (W.length - 1))) el_32 hS rfl rfl rfl (by omega) (by omega) (u32s_take _ _) (fun hS => ?_)
        replace hS : St g (Own 64 1 (u32s (W.take ((List.length W) - 1))) u d :: Slt p B.s :: cel a #[.pointer (some ⟨p, 0, none⟩), .slice na (List.length (nds A.nodes)) nc, .slice ca (List.length (i64s A.cnt)) cc, .int .u64 rd] 153 :: Own 165 8 (nds B.nodes) na nc :: Own 3 1 (i64s B.cnt) ca cc :: L) w := hS
        refine WL.r 1 rfl ?_
        refine WL.nil ?_
        refine WC.seq ?_
        refine WC.region ?_
        refine WL.run 5 [.slice ca (List.length (i64s A.cnt)) cc] rfl (by exact hS.ld 2 rfl rfl) ?_
        refine WL.ix rfl rfl (i := k) (k.toNat) el_56 rfl rfl (by omega) (by omega) (hS.rdO 4 rfl (i64s_at hc)).1 ?_
        refine WL.run 2 [.int .i64 c] rfl (by exact (hS.rdO 4 rfl (i64s_at hc)).2 0 _ rfl) ?_
        refine WL.nw 42 rfl (w64 (by omega)) ?_
        refine WL.ix rfl rfl (i := k) (k.toNat) el_56 rfl rfl (by omega) (by omega) (hS.rdO 4 rfl (i64s_at hc)).1 ?_
        refine WL.stE rfl rfl rfl 4 (k.toNat) 0 [.int .i64 c] (i64s (B.cnt.set k.toNat (c - 1))) hS rfl (i64s_at hc) rfl rfl rfl rfl rfl (i64s_set _ _ _) (fun w hS => ?_)
        replace hS : St g (Own 64 1 (u32s (W.take ((List.length W) - 1))) u d :: Slt p B.s :: cel a #[.pointer (some ⟨p, 0, none⟩), .slice na (List.length (nds A.nodes)) nc, .slice ca (List.length (i64s A.cnt)) cc, .int .u64 rd] 153 :: Own 165 8 (nds B.nodes) na nc :: Own 3 1 (i64s (B.cnt.set k.toNat (c - 1))) ca cc :: L) w := hS
        refine WL.nil ?_
        refine WC.seq ?_
        refine WC.seq ?_
        refine WC.region ?_
        have hdk : B.dec k = AM.mk B.s B.nodes (B.cnt.set k.toNat (c - 1)) := (by unfold AM.dec; rw [hce, w64 (by omega)])
        refine WL.run 5 [.slice ca (List.length (i64s A.cnt)) cc] rfl (by exact hS.ld 2 rfl rfl) ?_
        have hc2 : (B.cnt.set k.toNat (c - 1))[k.toNat]? = some (c - 1) := by rw [List.getElem?_set, if_pos rfl, if_pos (by omega)]
        refine WL.ix rfl rfl (i := k) (k.toNat) el_56 rfl rfl (by omega) (by omega) (hS.rdO 4 rfl (i64s_at hc2)).1 ?_
        refine WL.run 2 [.int .i64 (c - 1)] rfl (by exact (hS.rdO 4 rfl (i64s_at hc2)).2 0 _ rfl) ?_
        refine WL.nil ?_
        as_aux_lemma =>
          refine WC.ifP rfl (fun cd2 => ?_) (fun cd2 => ?_)
          · refine WC.exit ?_
            exact ⟨_, (by first | (simp only [List.length_append, List.length_singleton]; omega) | omega | (show 2 * B.live.length + _ < _; omega)), W.take (W.length - 1), AM.mk B.s B.nodes (B.cnt.set k.toNat (c - 1)), fr, u, d, rfl, hS, (hTl), (by rw [← hdk]; exact hpk.dec hkR.2 (by omega) (by omega)), (by rw [← hdk]; exact hSh.dec k), (hf), (by show (W.take (W.length - 1)).length + B.live.length ≤ 65600; omega), rfl⟩
          · refine WC.skip ?_
            refine WC.seq ?_
            refine WC.region ?_
            refine WL.run 5 [.slice na (List.length (nds A.nodes)) nc] rfl (by exact hS.ld 2 rfl rfl) ?_
            refine WL.ix rfl rfl (i := k) (k.toNat) el_151 rfl rfl (by omega) (by omega) (hS.rdO 3 rfl (nds_at hnd)).1 ?_
            refine WL.ldC rfl rfl [.int .i64 nd.key, .int .i64 nd.val, .int .u32 nd.lf, .int .u32 nd.rg, .int .i64 nd.size, .int .i64 nd.sum, .int .i64 nd.mn, .int .i64 nd.mx] ag_165 rfl (hS.rdO 3 rfl (nds_at hnd)).2 ?_
            refine WL.new rfl rfl zv_165 hS (fun b2 w hS => ?_)
            refine WL.stF rfl rfl rfl 0 hS rfl rfl rfl rfl rfl ag_165 (fun w hS => ?_)
            replace hS : St g (cel b2 #[.int .i64 nd.key, .int .i64 nd.val, .int .u32 nd.lf, .int .u32 nd.rg, .int .i64 nd.size, .int .i64 nd.sum, .int .i64 nd.mn, .int .i64 nd.mx] 165 :: Own 64 1 (u32s (W.take ((List.length W) - 1))) u d :: Slt p B.s :: cel a #[.pointer (some ⟨p, 0, none⟩), .slice na (List.length (nds A.nodes)) nc, .slice ca (List.length (i64s A.cnt)) cc, .int .u64 rd] 153 :: Own 165 8 (nds B.nodes) na nc :: Own 3 1 (i64s (B.cnt.set k.toNat (c - 1))) ca cc :: L) w := hS
            refine WL.nil ?_
            refine WC.seq ?_
            refine WC.region ?_
            refine WL.run 5 [.slice na (List.length (nds A.nodes)) nc] rfl (by exact hS.ld 3 rfl rfl) ?_
            refine WL.build rfl rfl (cs := [.int .i64 0, .int .i64 0, .int .u32 0, .int .u32 0, .int .i64 0, .int .i64 0, .int .i64 0, .int .i64 0]) zv_165 rfl rfl ?_
            refine WL.ix rfl rfl (i := k) (k.toNat) el_151 rfl rfl (by omega) (by omega) (hS.rdO 4 rfl (nds_at hnd)).1 ?_
            refine WL.stS rfl rfl rfl 4 (k.toNat) [.int .i64 nd.key, .int .i64 nd.val, .int .u32 nd.lf, .int .u32 nd.rg, .int .i64 nd.size, .int .i64 nd.sum, .int .i64 nd.mn, .int .i64 nd.mx] (nds (B.nodes.set k.toNat Nd.zero)) hS rfl (nds_at hnd) rfl rfl rfl rfl ag_165 (nds_set _ _ Nd.zero) (fun w hS => ?_)
            replace hS : St g (cel b2 #[.int .i64 nd.key, .int .i64 nd.val, .int .u32 nd.lf, .int .u32 nd.rg, .int .i64 nd.size, .int .i64 nd.sum, .int .i64 nd.mn, .int .i64 nd.mx] 165 :: Own 64 1 (u32s (W.take ((List.length W) - 1))) u d :: Slt p B.s :: cel a #[.pointer (some ⟨p, 0, none⟩), .slice na (List.length (nds A.nodes)) nc, .slice ca (List.length (i64s A.cnt)) cc, .int .u64 rd] 153 :: Own 165 8 (nds (B.nodes.set k.toNat Nd.zero)) na nc :: Own 3 1 (i64s (B.cnt.set k.toNat (c - 1))) ca cc :: L) w := hS
            refine WL.nil ?_
            refine WC.seq ?_
            refine WC.region ?_
            refine WL.run 5 [.pointer (some ⟨p, 0, none⟩)] rfl (by exact hS.ld 3 rfl rfl) ?_
            refine WL.call rfl rfl (sl_release_ok (s := p) (S := B.s) (i := k) (hO := hB.s) (hi := (by omega)) (hn := hkR.2) (hS := (hS.sel 3 [2, 0, 0] rfl))) rfl ?_
            clear hS; rintro _ w ⟨rfl, hS⟩
            replace hS : St g (Slt p (B.s.release k) :: cel b2 #[.int .i64 nd.key, .int .i64 nd.val, .int .u32 nd.lf, .int .u32 nd.rg, .int .i64 nd.size, .int .i64 nd.sum, .int .i64 nd.mn, .int .i64 nd.mx] 165 :: Own 64 1 (u32s (W.take ((List.length W) - 1))) u d :: cel a #[.pointer (some ⟨p, 0, none⟩), .slice na (List.length (nds A.nodes)) nc, .slice ca (List.length (i64s A.cnt)) cc, .int .u64 rd] 153 :: Own 165 8 (nds (B.nodes.set k.toNat Nd.zero)) na nc :: Own 3 1 (i64s (B.cnt.set k.toNat (c - 1))) ca cc :: L) w := hS
            refine WL.nil ?_
            as_aux_lemma =>
              refine WC.seq ?_
              refine WC.region ?_
              refine WL.r 2 rfl ?_
              refine WL.nw 73 rfl (w64 (by omega)) ?_
              refine WL.r 1 rfl ?_
              refine WL.nil ?_
              refine WC.seq ?_
              refine WC.seq ?_
              refine WC.region ?_
              have hfk : B.freed k = AM.mk (B.s.release k) (B.nodes.set k.toNat Nd.zero) (B.cnt.set k.toNat (c - 1)) := (by unfold AM.freed; rw [hce, w64 (by omega)]); have hne : B.nd k = nd := (by unfold AM.nd; rw [hnd]; rfl); have hB2 := hpk.free hkR.2 (by omega) (by omega) (by rw [List.length_append, hTn]; omega); have hS2 := hSh.free hB.toAWf hkR.2 (by omega); have hlv := (live_perm hkR.2 (by omega) (AM.freed_ok hB.s hkR.2 (by omega))).length_eq; rw [List.length_cons] at hlv; have hfe : (B.freed k).s.free = B.s.free + 1 := SM.release_free k; rw [hne] at hB2; rw [hfk] at hB2 hS2 hlv hfe; have hrr := hB2.rng (r := nd.rg) (by simp); have hll := hB2.rng (r := nd.lf) (by simp); have hpp := push_ok hB2
              refine WL.run 3 [.int .u32 nd.rg] rfl (by exact hS.ld 1 rfl rfl) ?_
              refine WL.nil ?_
              refine WC.ifP rfl (fun cd3 => ?_) (fun cd3 => ?_)
              · refine WC.region ?_
                refine WL.run 3 [.int .u32 nd.rg] rfl (by exact hS.ld 1 rfl rfl) ?_
                refine WL.lit rfl rfl (u32s [nd.rg]) el_32 hS (by exact ⟨rfl, rfl⟩) (u32s_ok _) rfl (by decide) (fun b3 w hS => ?_)
                refine WL.app rfl rfl 3 (u32s ((W.take ((List.length W) - 1)) ++ [nd.rg])) el_32 hS rfl (hS.srcO 0 rfl) (u32s_app _ _).symm (Rm.of (by first | omega | (simp <;> omega)) (by decide)) rfl rfl (fun a2 c1 w hS => ?_)
                replace hS : St g (Own 64 1 (u32s [nd.rg]) (some ⟨b3, 0, none⟩) (List.length (u32s [nd.rg])) :: Slt p (B.s.release k) :: cel b2 #[.int .i64 nd.key, .int .i64 nd.val, .int .u32 nd.lf, .int .u32 nd.rg, .int .i64 nd.size, .int .i64 nd.sum, .int .i64 nd.mn, .int .i64 nd.mx] 165 :: Own 64 1 (u32s ((W.take ((List.length W) - 1)) ++ [nd.rg])) a2 c1 :: cel a #[.pointer (some ⟨p, 0, none⟩), .slice na (List.length (nds A.nodes)) nc, .slice ca (List.length (i64s A.cnt)) cc, .int .u64 rd] 153 :: Own 165 8 (nds (B.nodes.set k.toNat Nd.zero)) na nc :: Own 3 1 (i64s (B.cnt.set k.toNat (c - 1))) ca cc :: L) w := hS
                refine WL.r 1 rfl ?_
                refine WL.nil ?_
                refine WC.seq ?_
                refine WC.region ?_
                refine WL.run 3 [.int .u32 nd.lf] rfl (by exact hS.ld 2 rfl rfl) ?_
                refine WL.nil ?_
                refine WC.ifP rfl (fun cd4 => ?_) (fun cd4 => ?_)
                · refine WC.region ?_
                  refine WL.run 3 [.int .u32 nd.lf] rfl (by exact hS.ld 2 rfl rfl) ?_
                  refine WL.lit rfl rfl (u32s [nd.lf]) el_32 hS (by exact ⟨rfl, rfl⟩) (u32s_ok _) rfl (by decide) (fun b4 w hS => ?_)
                  refine WL.app rfl rfl 4 (u32s (((W.take ((List.length W) - 1)) ++ [nd.rg]) ++ [nd.lf])) el_32 hS rfl (hS.srcO 0 rfl) (u32s_app _ _).symm (Rm.of (by first | omega | (simp <;> omega)) (by decide)) rfl rfl (fun a3 c2 w hS => ?_)
                  replace hS : St g (Own 64 1 (u32s [nd.lf]) (some ⟨b4, 0, none⟩) (List.length (u32s [nd.lf])) :: Own 64 1 (u32s [nd.rg]) (some ⟨b3, 0, none⟩) (List.length (u32s [nd.rg])) :: Slt p (B.s.release k) :: cel b2 #[.int .i64 nd.key, .int .i64 nd.val, .int .u32 nd.lf, .int .u32 nd.rg, .int .i64 nd.size, .int .i64 nd.sum, .int .i64 nd.mn, .int .i64 nd.mx] 165 :: Own 64 1 (u32s (((W.take ((List.length W) - 1)) ++ [nd.rg]) ++ [nd.lf])) a3 c2 :: cel a #[.pointer (some ⟨p, 0, none⟩), .slice na (List.length (nds A.nodes)) nc, .slice ca (List.length (i64s A.cnt)) cc, .int .u64 rd] 153 :: Own 165 8 (nds (B.nodes.set k.toNat Nd.zero)) na nc :: Own 3 1 (i64s (B.cnt.set k.toNat (c - 1))) ca cc :: L) w := hS
                  refine WL.r 1 rfl ?_
                  refine WL.nil ?_
                  exact ⟨_, (by first | (simp only [List.length_append, List.length_singleton]; omega) | omega | (show 2 * B.live.length + _ < _; omega)), W.take (W.length - 1) ++ [nd.rg] ++ [nd.lf], AM.mk (B.s.release k) (B.nodes.set k.toNat Nd.zero) (B.cnt.set k.toNat (c - 1)), fr + 1, a3, c2, rfl, (hS.sel 5 [4, 2] rfl), (all_app (all_app hTl (by omega)) (by omega)), (by simpa [cd3, cd4] using hpp), (hS2), (by rw [hfe]; omega), (by simp only [List.length_append, List.length_singleton]; omega), rfl⟩
                · refine WC.skip ?_
                  exact ⟨_, (by first | (simp only [List.length_append, List.length_singleton]; omega) | omega | (show 2 * B.live.length + _ < _; omega)), W.take (W.length - 1) ++ [nd.rg], AM.mk (B.s.release k) (B.nodes.set k.toNat Nd.zero) (B.cnt.set k.toNat (c - 1)), fr + 1, a2, c1, rfl, (hS.sel 4 [3, 1] rfl), (all_app hTl (by omega)), (by simpa [cd3, cd4] using hpp), (hS2), (by rw [hfe]; omega), (by simp only [List.length_append, List.length_singleton]; omega), rfl⟩
              · refine WC.skip ?_
                refine WC.seq ?_
                refine WC.region ?_
                refine WL.run 3 [.int .u32 nd.lf] rfl (by exact hS.ld 1 rfl rfl) ?_
                refine WL.nil ?_
                refine WC.ifP rfl (fun cd4 => ?_) (fun cd4 => ?_)
                · refine WC.region ?_
                  refine WL.run 3 [.int .u32 nd.lf] rfl (by exact hS.ld 1 rfl rfl) ?_
                  refine WL.lit rfl rfl (u32s [nd.lf]) el_32 hS (by exact ⟨rfl, rfl⟩) (u32s_ok _) rfl (by decide) (fun b3 w hS => ?_)
                  refine WL.app rfl rfl 3 (u32s ((W.take ((List.length W) - 1)) ++ [nd.lf])) el_32 hS rfl (hS.srcO 0 rfl) (u32s_app _ _).symm (Rm.of (by first | omega | (simp <;> omega)) (by decide)) rfl rfl (fun a2 c1 w hS => ?_)
                  replace hS : St g (Own 64 1 (u32s [nd.lf]) (some ⟨b3, 0, none⟩) (List.length (u32s [nd.lf])) :: Slt p (B.s.release k) :: cel b2 #[.int .i64 nd.key, .int .i64 nd.val, .int .u32 nd.lf, .int .u32 nd.rg, .int .i64 nd.size, .int .i64 nd.sum, .int .i64 nd.mn, .int .i64 nd.mx] 165 :: Own 64 1 (u32s ((W.take ((List.length W) - 1)) ++ [nd.lf])) a2 c1 :: cel a #[.pointer (some ⟨p, 0, none⟩), .slice na (List.length (nds A.nodes)) nc, .slice ca (List.length (i64s A.cnt)) cc, .int .u64 rd] 153 :: Own 165 8 (nds (B.nodes.set k.toNat Nd.zero)) na nc :: Own 3 1 (i64s (B.cnt.set k.toNat (c - 1))) ca cc :: L) w := hS
                  refine WL.r 1 rfl ?_
                  refine WL.nil ?_
                  exact ⟨_, (by first | (simp only [List.length_append, List.length_singleton]; omega) | omega | (show 2 * B.live.length + _ < _; omega)), W.take (W.length - 1) ++ [nd.lf], AM.mk (B.s.release k) (B.nodes.set k.toNat Nd.zero) (B.cnt.set k.toNat (c - 1)), fr + 1, a2, c1, rfl, (hS.sel 4 [3, 1] rfl), (all_app hTl (by omega)), (by simpa [cd3, cd4] using hpp), (hS2), (by rw [hfe]; omega), (by simp only [List.length_append, List.length_singleton]; omega), rfl⟩
                · refine WC.skip ?_
                  exact ⟨_, (by first | (simp only [List.length_append, List.length_singleton]; omega) | omega | (show 2 * B.live.length + _ < _; omega)), W.take (W.length - 1), AM.mk (B.s.release k) (B.nodes.set k.toNat Nd.zero) (B.cnt.set k.toNat (c - 1)), fr + 1, u, d, rfl, (hS.sel 3 [2, 0] rfl), (hTl), (by simpa [cd3, cd4] using hpp), (hS2), (by rw [hfe]; omega), (by omega), rfl⟩
    · refine WC.exit ?_
      refine WC.seq ?_
      refine WC.region ?_
      refine WL.r 3 rfl ?_
      refine WL.nil ?_
      as_aux_lemma =>
        refine WC.ret ?_
        have hWn : W = [] := List.length_eq_zero_iff.1 (by rw [u32s_len] at cd1; omega)
        subst hWn
        have eN : (nds B.nodes).length = (nds A.nodes).length := by rw [nds_len, nds_len, hB.nl, hnl, hSh.cap]
        have eC : (i64s B.cnt).length = (i64s A.cnt).length := by rw [i64s_len, i64s_len, hB.cl, hcl, hSh.cap]
        replace hS := St.exClose (f := arnF a B) ⟨p, na, nc, ca, cc, rd⟩ (by unfold arnF; rw [eN, eC]; exact hS.sel 5 [2, 1, 1, 1] rfl)
        replace hS : St g (Arn a B :: L) w := hS
        refine ⟨[.int .i64 fr, .int .i64 0], ⟨rfl, rfl⟩, ?_⟩
        exact ⟨B, _, rfl, hS, hB, hSh, hf⟩
end Go.Proofs.YtlnlnebibgdjdaaGreat
/-! ## R3 -/
namespace Go.Proofs.YtlnlnebibgdjdaaGreat
open Go Go.V
set_option maxHeartbeats 2000000 in
set_option maxRecDepth 8192 in
theorem ar_make {g w : World} {L : List HP} (a : Nat) (A : AM) (key val l r : Int) (hA : AWf A) (hK : Kd A l r) (hf : 0 < A.s.free) (hS : St g (Arn a A :: L) w) :
    Sp Tryz.prog 161 [.pointer (some ⟨a, 0, none⟩), .int .i64 key, .int .i64 val, .int .u32 l, .int .u32 r] w (fun v w' => v = .tuple #[.int .u32 A.s.next, .int .i64 0] ∧ St g (Arn a (A.make (A.nodeOf key val l r)) :: L) w') := by
  refine Sp.enter Tryz.func161 rfl (by kernel_rfl) (by kernel_rfl) ?_
  refine WC.seq ?_
  refine WC.region ?_
  refine WL.r 2 rfl ?_
  refine WL.nil ?_
  refine WC.seq ?_
  refine WC.region ?_
  obtain ⟨⟨p, na, nc, ca, cc, rd⟩, hS⟩ := St.exOpen (f := arnF a A) hS; have hAs := hA.s; have hcp := hAs.cap; have hnl := hA.nl; have hcl := hA.cl; have hbn := nds_len A.nodes; have hbc := i64s_len A.cnt
  replace hS : St g (cel a #[.pointer (some ⟨p, 0, none⟩), .slice na (List.length (nds A.nodes)) nc, .slice ca (List.length (i64s A.cnt)) cc, .int .u64 rd] 153 :: Slt p A.s :: Own 165 8 (nds A.nodes) na nc :: Own 3 1 (i64s A.cnt) ca cc :: L) w := hS
  refine WL.r 7 rfl ?_
  refine WL.build rfl rfl (cs := [.int .i64 key, .int .i64 val, .int .u32 l, .int .u32 r, .int .i64 1, .int .i64 val, .int .i64 val, .int .i64 val]) zv_165 rfl rfl ?_
  refine WL.new rfl rfl zv_165 hS (fun b1 w hS => ?_)
  refine WL.stF rfl rfl rfl 0 hS rfl rfl rfl rfl rfl ag_165 (fun w hS => ?_)
  replace hS : St g (cel b1 #[.int .i64 key, .int .i64 val, .int .u32 l, .int .u32 r, .int .i64 1, .int .i64 val, .int .i64 val, .int .i64 val] 165 :: cel a #[.pointer (some ⟨p, 0, none⟩), .slice na (List.length (nds A.nodes)) nc, .slice ca (List.length (i64s A.cnt)) cc, .int .u64 rd] 153 :: Slt p A.s :: Own 165 8 (nds A.nodes) na nc :: Own 3 1 (i64s A.cnt) ca cc :: L) w := hS
  refine WL.nil ?_
  refine WC.seq ?_
  refine WC.seq ?_
  refine WC.region ?_
  refine WL.r 2 rfl ?_
  refine WL.buildA rfl rfl (cs := [.int .u32 l, .int .u32 r]) ar_296 zv_296 rfl ?_
  refine WL.r 1 rfl ?_
  refine WL.nil ?_
  refine WC.block ?_
  refine WC.loop [0, 3, 4, 12, 28, 29] (fun kM vs w => ∃ (k : Nat) (n1 : Nd), vs = [.pointer (some ⟨a, 0, none⟩), .int .u32 l, .int .u32 r, .pointer (some ⟨b1, 0, none⟩), .agg #[.int .u32 l, .int .u32 r], .int .i64 k] ∧ St g (cel b1 #[.int .i64 n1.key, .int .i64 n1.val, .int .u32 n1.lf, .int .u32 n1.rg, .int .i64 n1.size, .int .i64 n1.sum, .int .i64 n1.mn, .int .i64 n1.mx] 165 :: cel a #[.pointer (some ⟨p, 0, none⟩), .slice na (List.length (nds A.nodes)) nc, .slice ca (List.length (i64s A.cnt)) cc, .int .u64 rd] 153 :: Slt p A.s :: Own 165 8 (nds A.nodes) na nc :: Own 3 1 (i64s A.cnt) ca cc :: L) w ∧ (k ≤ 2) ∧ (n1 = accN A l r (ndBase key val l r) k) ∧ (2 - k) = kM) (2 - 0) ⟨0, ndBase key val l r, rfl, hS, (by omega), (rfl), rfl⟩ ?_
  clear hS; rintro _ _ w j ⟨k, n1, rfl, hS, hk, hn, rfl⟩
  refine WC.seq ?_
  refine WC.region ?_
  refine WL.r 1 rfl ?_
  refine WL.nil ?_
  as_aux_lemma =>
    refine WC.seq ?_
    refine WC.ifP rfl (fun cd1 => ?_) (fun cd1 => ?_)
    · refine WC.skip ?_
      refine WC.seq ?_
      refine WC.block ?_
      refine WC.seq ?_
      refine WC.region ?_
      have hk1 : k < 2 := (by omega); have hkk := hK.at_ k; have hcz := accN_le hA hK (key := key) (val := val) (k := k) (by omega); rw [← hn] at hcz; have hce : A.s.cap = (A.s.used.length : Int) - 1 := rfl
      refine WL.ixA rfl rfl (v := k) (k) ar_296 rfl rfl (by omega) (by omega) (lr_at (l := l) (r := r) (k := k) hk1) ?_
      refine WL.r 1 rfl ?_
      refine WL.nil ?_
      refine WC.seq ?_
      refine WC.seq ?_
      refine WC.region ?_
      refine WL.r 2 rfl ?_
      refine WL.nil ?_
      refine WC.ifP rfl (fun cd2 => ?_) (fun cd2 => ?_)
      · refine WC.exit ?_
        refine WC.region ?_
        refine WL.r 1 rfl ?_
        refine WL.nw 79 rfl (w64 (by omega)) ?_
        refine WL.r 1 rfl ?_
        refine WL.nil ?_
        exact ⟨_, by omega, k + 1, n1, rfl, hS, (by omega), (by rw [accN, if_pos cd2]; exact hn), rfl⟩
      · refine WC.skip ?_
        refine WC.seq ?_
        refine WC.seq ?_
        refine WC.region ?_
        refine WL.run 5 [.pointer (some ⟨p, 0, none⟩)] rfl (by exact hS.ld 1 rfl rfl) ?_
        refine WL.call rfl rfl (sl_ok (s := p) (S := A.s) (i := lrOf l r k) (hl := (by first | assumption | exact SOk.le (by assumption))) (hi := (by have := SM.ok_rng hAs (i := lrOf l r k) (by omega) (hkk.1.resolve_left cd2).2; omega)) (hS := (hS.sel 3 [2, 0, 0] rfl))) rfl ?_
        clear hS; rintro _ w ⟨rfl, hS⟩
        replace hS : St g (Slt p A.s :: cel b1 #[.int .i64 n1.key, .int .i64 n1.val, .int .u32 n1.lf, .int .u32 n1.rg, .int .i64 n1.size, .int .i64 n1.sum, .int .i64 n1.mn, .int .i64 n1.mx] 165 :: cel a #[.pointer (some ⟨p, 0, none⟩), .slice na (List.length (nds A.nodes)) nc, .slice ca (List.length (i64s A.cnt)) cc, .int .u64 rd] 153 :: Own 165 8 (nds A.nodes) na nc :: Own 3 1 (i64s A.cnt) ca cc :: L) w := hS
        refine WL.r 1 rfl ?_
        refine WL.nil ?_
        as_aux_lemma =>
          refine WC.ifF rfl (by rw [(hkk.1.resolve_left cd2).2]; rfl) ?_
          refine WC.skip ?_
          refine WC.seq ?_
          refine WC.region ?_
          have hcr := SM.ok_rng hAs (i := lrOf l r k) (by omega) (hkk.1.resolve_left cd2).2; obtain ⟨x, hx⟩ : ∃ x, A.nodes[(lrOf l r k).toNat]? = some x := ⟨_, List.getElem?_eq_getElem (by omega)⟩; have hxe : A.nd (lrOf l r k) = x := (by unfold AM.nd; rw [hx]; rfl); have hxz : A.sz (lrOf l r k) = x.size := (by rw [sz_ok (hkk.1.resolve_left cd2).2, hxe])
          refine WL.run 5 [.slice na (List.length (nds A.nodes)) nc] rfl (by exact hS.ld 2 rfl rfl) ?_
          refine WL.ix rfl rfl (i := lrOf l r k) ((lrOf l r k).toNat) el_151 rfl rfl (by omega) (by omega) (hS.rdO 3 rfl (nds_at hx)).1 ?_
          refine WL.r 1 rfl ?_
          refine WL.nil ?_
          refine WC.seq ?_
          refine WC.plan [([0, 2, 1, 3, 4, 5, 6, 7], some (8, []))] (by kernel_rfl) (by kernel_rfl) ?_
          refine WQ.run 7 [.int .i64 n1.size, .int .i64 x.size] rfl (by exact ⟨hS.ld 1 rfl rfl, (hS.rdO 3 rfl (nds_at hx)).2 4 _ rfl⟩) ?_
          refine WQ.nw 53 rfl (w64 (by omega)) ?_
          refine WQ.r 1 rfl ?_
          refine WQ.nil ?_
          intro m1
          replace hS := hS.drewN m1; generalize hwm1 : World.drewN _ _ = w at *; clear hwm1
          refine WL.st rfl rfl rfl 1 hS rfl rfl rfl rfl rfl rfl (fun w hS => ?_)
          replace hS : St g (Slt p A.s :: cel b1 #[.int .i64 n1.key, .int .i64 n1.val, .int .u32 n1.lf, .int .u32 n1.rg, .int .i64 (n1.size + x.size), .int .i64 n1.sum, .int .i64 n1.mn, .int .i64 n1.mx] 165 :: cel a #[.pointer (some ⟨p, 0, none⟩), .slice na (List.length (nds A.nodes)) nc, .slice ca (List.length (i64s A.cnt)) cc, .int .u64 rd] 153 :: Own 165 8 (nds A.nodes) na nc :: Own 3 1 (i64s A.cnt) ca cc :: L) w := hS
          refine WL.nil ?_
          refine ⟨by exact trivial, ?_⟩
          intro m2
          replace hS := hS.drewN m2; generalize hwm2 : World.drewN _ _ = w at *; clear hwm2
          refine WC.seq ?_
          refine WC.plan [([0, 2, 1, 3, 4, 5, 6, 7], some (8, []))] (by kernel_rfl) (by kernel_rfl) ?_
          refine WQ.run 7 [.int .i64 n1.sum, .int .i64 x.sum] rfl (by exact ⟨hS.ld 1 rfl rfl, (hS.rdO 3 rfl (nds_at hx)).2 5 _ rfl⟩) ?_
          refine WQ.r 1 rfl ?_
          refine WQ.nil ?_
          intro m3
          replace hS := hS.drewN m3; generalize hwm3 : World.drewN _ _ = w at *; clear hwm3
          refine WL.st rfl rfl rfl 1 hS rfl rfl rfl rfl rfl rfl (fun w hS => ?_)
          replace hS : St g (Slt p A.s :: cel b1 #[.int .i64 n1.key, .int .i64 n1.val, .int .u32 n1.lf, .int .u32 n1.rg, .int .i64 (n1.size + x.size), .int .i64 (IntKind.i64.wrap (n1.sum + x.sum)), .int .i64 n1.mn, .int .i64 n1.mx] 165 :: cel a #[.pointer (some ⟨p, 0, none⟩), .slice na (List.length (nds A.nodes)) nc, .slice ca (List.length (i64s A.cnt)) cc, .int .u64 rd] 153 :: Own 165 8 (nds A.nodes) na nc :: Own 3 1 (i64s A.cnt) ca cc :: L) w := hS
          refine WL.nil ?_
          refine ⟨by exact trivial, ?_⟩
          intro m4
          replace hS := hS.drewN m4; generalize hwm4 : World.drewN _ _ = w at *; clear hwm4
          as_aux_lemma =>
            refine WC.seq ?_
            refine WC.plan [([0, 2, 1, 3, 4, 5, 6, 7], some (8, []))] (by kernel_rfl) (by kernel_rfl) ?_
            refine WQ.run 8 [.int .i64 n1.mn, .int .i64 x.mn] rfl (by exact ⟨hS.ld 1 rfl rfl, (hS.rdO 3 rfl (nds_at hx)).2 6 _ rfl⟩) ?_
            refine WQ.nil ?_
            intro m5
            replace hS := hS.drewN m5; generalize hwm5 : World.drewN _ _ = w at *; clear hwm5
            refine WL.st rfl rfl rfl 1 hS rfl rfl rfl rfl rfl rfl (fun w hS => ?_)
            replace hS : St g (Slt p A.s :: cel b1 #[.int .i64 n1.key, .int .i64 n1.val, .int .u32 n1.lf, .int .u32 n1.rg, .int .i64 (n1.size + x.size), .int .i64 (IntKind.i64.wrap (n1.sum + x.sum)), .int .i64 (min n1.mn x.mn), .int .i64 n1.mx] 165 :: cel a #[.pointer (some ⟨p, 0, none⟩), .slice na (List.length (nds A.nodes)) nc, .slice ca (List.length (i64s A.cnt)) cc, .int .u64 rd] 153 :: Own 165 8 (nds A.nodes) na nc :: Own 3 1 (i64s A.cnt) ca cc :: L) w := hS
            refine WL.nil ?_
            refine ⟨by exact trivial, ?_⟩
            intro m6
            replace hS := hS.drewN m6; generalize hwm6 : World.drewN _ _ = w at *; clear hwm6
            refine WC.plan [([0, 2, 1, 3, 4, 5, 6, 7], some (8, []))] (by kernel_rfl) (by kernel_rfl) ?_
            refine WQ.run 8 [.int .i64 n1.mx, .int .i64 x.mx] rfl (by exact ⟨hS.ld 1 rfl rfl, (hS.rdO 3 rfl (nds_at hx)).2 7 _ rfl⟩) ?_
            refine WQ.nil ?_
            intro m7
            replace hS := hS.drewN m7; generalize hwm7 : World.drewN _ _ = w at *; clear hwm7
            refine WL.st rfl rfl rfl 1 hS rfl rfl rfl rfl rfl rfl (fun w hS => ?_)
            replace hS : St g (Slt p A.s :: cel b1 #[.int .i64 n1.key, .int .i64 n1.val, .int .u32 n1.lf, .int .u32 n1.rg, .int .i64 (n1.size + x.size), .int .i64 (IntKind.i64.wrap (n1.sum + x.sum)), .int .i64 (min n1.mn x.mn), .int .i64 (max n1.mx x.mx)] 165 :: cel a #[.pointer (some ⟨p, 0, none⟩), .slice na (List.length (nds A.nodes)) nc, .slice ca (List.length (i64s A.cnt)) cc, .int .u64 rd] 153 :: Own 165 8 (nds A.nodes) na nc :: Own 3 1 (i64s A.cnt) ca cc :: L) w := hS
            refine WL.nil ?_
            refine ⟨by exact trivial, ?_⟩
            intro m8
            replace hS := hS.drewN m8; generalize hwm8 : World.drewN _ _ = w at *; clear hwm8
            refine WC.region ?_
            refine WL.r 1 rfl ?_
            refine WL.nw 79 rfl (w64 (by omega)) ?_
            refine WL.r 1 rfl ?_
            refine WL.nil ?_
            exact ⟨_, by omega, k + 1, ndAdd n1 x, rfl, (hS.sel 3 [1, 1, 0] rfl), (by omega), (by rw [accN, if_neg cd2, hxe, ← hn]), rfl⟩
    · refine WC.exit ?_
      refine WC.seq ?_
      refine WC.seq ?_
      refine WC.region ?_
      have hk2 : k = 2 := by omega
      have hnd : n1 = A.nodeOf key val l r := by rw [hn, hk2]; rfl
      have hnz := nodeOf_sz hA (key := key) (val := val) hK; have hzz := hK.z; rw [← hnd] at hnz
      refine WL.run 3 [.int .i64 n1.size] rfl (by exact hS.ld 0 rfl rfl) ?_
      refine WL.nil ?_
      refine WC.ifF rfl (decide_eq_false ((by omega))) ?_
      refine WC.skip ?_
      refine WC.seq ?_
      refine WC.region ?_
      refine WL.run 4 [.pointer (some ⟨p, 0, none⟩)] rfl (by exact hS.ld 1 rfl rfl) ?_
      refine WL.call rfl rfl (sl_alloc_ok (s := p) (S := A.s) (hO := (by assumption)) (hf := hf) (hS := (hS.sel 3 [2, 0, 0] rfl))) rfl ?_
      clear hS; rintro _ w ⟨rfl, hS⟩
      replace hS : St g (Slt p A.s.alloc :: cel b1 #[.int .i64 n1.key, .int .i64 n1.val, .int .u32 n1.lf, .int .u32 n1.rg, .int .i64 n1.size, .int .i64 n1.sum, .int .i64 n1.mn, .int .i64 n1.mx] 165 :: cel a #[.pointer (some ⟨p, 0, none⟩), .slice na (List.length (nds A.nodes)) nc, .slice ca (List.length (i64s A.cnt)) cc, .int .u64 rd] 153 :: Own 165 8 (nds A.nodes) na nc :: Own 3 1 (i64s A.cnt) ca cc :: L) w := hS
      refine WL.r 5 rfl ?_
      refine WL.nil ?_
      refine WC.seq ?_
      refine WC.seq ?_
      refine WC.region ?_
      refine WL.r 2 rfl ?_
      refine WL.nil ?_
      as_aux_lemma =>
        refine WC.ifF rfl (decide_eq_false ((by decide))) ?_
        refine WC.skip ?_
        refine WC.seq ?_
        refine WC.plan [([0, 4, 1, 2, 3], some (5, [0, 1, 2, 3, 4])), ([], some (6, [])), ([], some (7, []))] (by kernel_rfl) (by kernel_rfl) ?_
        have hnx := A.s.next_rng hAs hf; obtain ⟨y, hy⟩ : ∃ y, A.nodes[A.s.next.toNat]? = some y := ⟨_, List.getElem?_eq_getElem (by omega)⟩
        refine WQ.run 5 [.slice na (List.length (nds A.nodes)) nc] rfl (by exact hS.ld 2 rfl rfl) ?_
        refine WQ.nil ?_
        intro m1
        replace hS := hS.drewN m1; generalize hwm1 : World.drewN _ _ = w at *; clear hwm1
        refine WL.ldF rfl rfl 1 hS rfl rfl ag_165 ?_
        refine WL.nil ?_
        refine ⟨by exact ⟨RQ.pure rfl rfl rfl rfl, RQ.pure rfl rfl rfl rfl, RQ.pure rfl rfl rfl rfl, RQ.load rfl rfl rfl rfl (hS.ld 2 rfl rfl), RQ.pure rfl rfl rfl rfl⟩, ?_⟩
        refine WQ.nil ?_
        intro m2
        replace hS := hS.drewN m2; generalize hwm2 : World.drewN _ _ = w at *; clear hwm2
        refine WL.ix rfl rfl (i := A.s.next) (A.s.next.toNat) el_151 rfl rfl (by omega) (by omega) (hS.rdO 3 rfl (nds_at hy)).1 ?_
        refine WL.nil ?_
        refine ⟨by exact trivial, ?_⟩
        refine WQ.nil ?_
        intro m3
        replace hS := hS.drewN m3; generalize hwm3 : World.drewN _ _ = w at *; clear hwm3
        refine WL.stS rfl rfl rfl 3 (A.s.next.toNat) [.int .i64 y.key, .int .i64 y.val, .int .u32 y.lf, .int .u32 y.rg, .int .i64 y.size, .int .i64 y.sum, .int .i64 y.mn, .int .i64 y.mx] (nds (A.nodes.set A.s.next.toNat n1)) hS rfl (nds_at hy) rfl rfl rfl rfl ag_165 (nds_set _ _ n1) (fun w hS => ?_)
        replace hS : St g (Slt p A.s.alloc :: cel b1 #[.int .i64 n1.key, .int .i64 n1.val, .int .u32 n1.lf, .int .u32 n1.rg, .int .i64 n1.size, .int .i64 n1.sum, .int .i64 n1.mn, .int .i64 n1.mx] 165 :: cel a #[.pointer (some ⟨p, 0, none⟩), .slice na (List.length (nds A.nodes)) nc, .slice ca (List.length (i64s A.cnt)) cc, .int .u64 rd] 153 :: Own 165 8 (nds (A.nodes.set A.s.next.toNat n1)) na nc :: Own 3 1 (i64s A.cnt) ca cc :: L) w := hS
        refine WL.nil ?_
        refine ⟨by exact trivial, ?_⟩
        intro m4
        replace hS := hS.drewN m4; generalize hwm4 : World.drewN _ _ = w at *; clear hwm4
        as_aux_lemma =>
          refine WC.seq ?_
          refine WC.region ?_
          refine WL.run 5 [.slice ca (List.length (i64s A.cnt)) cc] rfl (by exact hS.ld 2 rfl rfl) ?_
          obtain ⟨z, hz⟩ : ∃ z, A.cnt[A.s.next.toNat]? = some z := ⟨_, List.getElem?_eq_getElem (by omega)⟩
          refine WL.ix rfl rfl (i := A.s.next) (A.s.next.toNat) el_56 rfl rfl (by omega) (by omega) (hS.rdO 4 rfl (i64s_at hz)).1 ?_
          refine WL.stE rfl rfl rfl 4 (A.s.next.toNat) 0 [.int .i64 z] (i64s (A.cnt.set A.s.next.toNat 1)) hS rfl (i64s_at hz) rfl rfl rfl rfl rfl (i64s_set _ _ _) (fun w hS => ?_)
          replace hS : St g (Slt p A.s.alloc :: cel b1 #[.int .i64 n1.key, .int .i64 n1.val, .int .u32 n1.lf, .int .u32 n1.rg, .int .i64 n1.size, .int .i64 n1.sum, .int .i64 n1.mn, .int .i64 n1.mx] 165 :: cel a #[.pointer (some ⟨p, 0, none⟩), .slice na (List.length (nds A.nodes)) nc, .slice ca (List.length (i64s A.cnt)) cc, .int .u64 rd] 153 :: Own 165 8 (nds (A.nodes.set A.s.next.toNat n1)) na nc :: Own 3 1 (i64s (A.cnt.set A.s.next.toNat 1)) ca cc :: L) w := hS
          refine WL.nil ?_
          refine WC.seq ?_
          refine WC.region ?_
          refine WL.run 5 [.slice ca (List.length (i64s A.cnt)) cc] rfl (by exact hS.ld 2 rfl rfl) ?_
          have hlr2 := hK.at_ 0; have hrr2 := hK.at_ 1; have hlR := okrng0 hA hK.cl; have hrR := okrng0 hA hK.cr; obtain ⟨z2, hz2⟩ : ∃ z, (A.cnt.set A.s.next.toNat 1)[l.toNat]? = some z := ⟨_, List.getElem?_eq_getElem (by rw [List.length_set]; omega)⟩
          refine WL.ix rfl rfl (i := l) (l.toNat) el_56 rfl rfl (by omega) (by omega) (hS.rdO 4 rfl (i64s_at hz2)).1 ?_
          refine WL.run 2 [.int .i64 z2] rfl (by exact (hS.rdO 4 rfl (i64s_at hz2)).2 0 _ rfl) ?_
          refine WL.ix rfl rfl (i := l) (l.toNat) el_56 rfl rfl (by omega) (by omega) (hS.rdO 4 rfl (i64s_at hz2)).1 ?_
          refine WL.stE rfl rfl rfl 4 (l.toNat) 0 [.int .i64 z2] (i64s ((A.cnt.set A.s.next.toNat 1).set l.toNat (IntKind.i64.wrap (z2 + 1)))) hS rfl (i64s_at hz2) rfl rfl rfl rfl rfl (i64s_set _ _ _) (fun w hS => ?_)
          replace hS : St g (Slt p A.s.alloc :: cel b1 #[.int .i64 n1.key, .int .i64 n1.val, .int .u32 n1.lf, .int .u32 n1.rg, .int .i64 n1.size, .int .i64 n1.sum, .int .i64 n1.mn, .int .i64 n1.mx] 165 :: cel a #[.pointer (some ⟨p, 0, none⟩), .slice na (List.length (nds A.nodes)) nc, .slice ca (List.length (i64s A.cnt)) cc, .int .u64 rd] 153 :: Own 165 8 (nds (A.nodes.set A.s.next.toNat n1)) na nc :: Own 3 1 (i64s ((A.cnt.set A.s.next.toNat 1).set l.toNat (IntKind.i64.wrap (z2 + 1)))) ca cc :: L) w := hS
          refine WL.nil ?_
          refine WC.seq ?_
          refine WC.region ?_
          refine WL.run 5 [.slice ca (List.length (i64s A.cnt)) cc] rfl (by exact hS.ld 2 rfl rfl) ?_
          obtain ⟨z3, hz3⟩ : ∃ z, ((A.cnt.set A.s.next.toNat 1).set l.toNat (IntKind.i64.wrap (z2 + 1)))[r.toNat]? = some z := ⟨_, List.getElem?_eq_getElem (by rw [List.length_set, List.length_set]; omega)⟩
          refine WL.ix rfl rfl (i := r) (r.toNat) el_56 rfl rfl (by omega) (by omega) (hS.rdO 4 rfl (i64s_at hz3)).1 ?_
          refine WL.run 2 [.int .i64 z3] rfl (by exact (hS.rdO 4 rfl (i64s_at hz3)).2 0 _ rfl) ?_
          refine WL.ix rfl rfl (i := r) (r.toNat) el_56 rfl rfl (by omega) (by omega) (hS.rdO 4 rfl (i64s_at hz3)).1 ?_
          refine WL.stE rfl rfl rfl 4 (r.toNat) 0 [.int .i64 z3] (i64s (((A.cnt.set A.s.next.toNat 1).set l.toNat (IntKind.i64.wrap (z2 + 1))).set r.toNat (IntKind.i64.wrap (z3 + 1)))) hS rfl (i64s_at hz3) rfl rfl rfl rfl rfl (i64s_set _ _ _) (fun w hS => ?_)
          replace hS : St g (Slt p A.s.alloc :: cel b1 #[.int .i64 n1.key, .int .i64 n1.val, .int .u32 n1.lf, .int .u32 n1.rg, .int .i64 n1.size, .int .i64 n1.sum, .int .i64 n1.mn, .int .i64 n1.mx] 165 :: cel a #[.pointer (some ⟨p, 0, none⟩), .slice na (List.length (nds A.nodes)) nc, .slice ca (List.length (i64s A.cnt)) cc, .int .u64 rd] 153 :: Own 165 8 (nds (A.nodes.set A.s.next.toNat n1)) na nc :: Own 3 1 (i64s (((A.cnt.set A.s.next.toNat 1).set l.toNat (IntKind.i64.wrap (z2 + 1))).set r.toNat (IntKind.i64.wrap (z3 + 1)))) ca cc :: L) w := hS
          refine WL.nil ?_
          as_aux_lemma =>
            refine WC.seq ?_
            refine WC.region ?_
            refine WL.r 3 rfl ?_
            refine WL.nil ?_
            refine WC.ret ?_
            have eM : A.make n1 = AM.mk A.s.alloc (A.nodes.set A.s.next.toNat n1) (((A.cnt.set A.s.next.toNat 1).set l.toNat (IntKind.i64.wrap (z2 + 1))).set r.toNat (IntKind.i64.wrap (z3 + 1))) := make_eq hz2 hz3 (by rw [hnd]; exact (accN_lf ..).1) (by rw [hnd]; exact (accN_lf ..).2.1)
            rw [hnd] at eM hS
            have eN : (nds (A.nodes.set A.s.next.toNat (A.nodeOf key val l r))).length = (nds A.nodes).length := by simp
            have eC : (i64s (((A.cnt.set A.s.next.toNat 1).set l.toNat (IntKind.i64.wrap (z2 + 1))).set r.toNat (IntKind.i64.wrap (z3 + 1)))).length = (i64s A.cnt).length := by simp
            replace hS := St.exClose (f := arnF a (A.make (A.nodeOf key val l r))) ⟨p, na, nc, ca, cc, rd⟩ (by rw [eM]; unfold arnF; simp only [eN, eC]; exact hS.sel 5 [2, 0, 1, 1] rfl)
            replace hS : St g (Arn a (A.make (A.nodeOf key val l r)) :: L) w := hS
            refine ⟨[.int .u32 A.s.next, .int .i64 0], ⟨rfl, rfl⟩, ?_⟩
            exact ⟨rfl, hS⟩
set_option maxRecDepth 8192 in
theorem ar_size {g w : World} {L : List HP} (a : Nat) (A : AM) (i : Int) (hA : AWf A) (hi : 0 ≤ i ∧ i < 4294967296) (hS : St g (Arn a A :: L) w) :
    Sp Tryz.prog 128 [.pointer (some ⟨a, 0, none⟩), .int .u32 i] w (fun v w' => v = .int .i64 (A.sz i) ∧ St g (Arn a A :: L) w') := by
  refine Sp.enter Tryz.func128 rfl (by kernel_rfl) (by kernel_rfl) ?_
  refine WC.seq ?_
  refine WC.region ?_
  refine WL.r 1 rfl ?_
  refine WL.nil ?_
  refine WC.seq ?_
  refine WC.seq ?_
  refine WC.region ?_
  obtain ⟨⟨p, na, nc, ca, cc, rd⟩, hS⟩ := St.exOpen (f := arnF a A) hS; have hAs := hA.s; have hcp := hAs.cap; have hnl := hA.nl; have hcl := hA.cl; have hbn := nds_len A.nodes; have hbc := i64s_len A.cnt
  replace hS : St g (cel a #[.pointer (some ⟨p, 0, none⟩), .slice na (List.length (nds A.nodes)) nc, .slice ca (List.length (i64s A.cnt)) cc, .int .u64 rd] 153 :: Slt p A.s :: Own 165 8 (nds A.nodes) na nc :: Own 3 1 (i64s A.cnt) ca cc :: L) w := hS
  refine WL.run 5 [.pointer (some ⟨p, 0, none⟩)] rfl (by exact hS.ld 0 rfl rfl) ?_
  refine WL.call rfl rfl (sl_ok (s := p) (S := A.s) (i := i) (hl := (by first | assumption | exact SOk.le (by assumption))) (hi := hi) (hS := (hS.sel 2 [1, 0] rfl))) rfl ?_
  clear hS; rintro _ w ⟨rfl, hS⟩
  replace hS : St g (Slt p A.s :: cel a #[.pointer (some ⟨p, 0, none⟩), .slice na (List.length (nds A.nodes)) nc, .slice ca (List.length (i64s A.cnt)) cc, .int .u64 rd] 153 :: Own 165 8 (nds A.nodes) na nc :: Own 3 1 (i64s A.cnt) ca cc :: L) w := hS
  refine WL.r 1 rfl ?_
  refine WL.nil ?_
  refine WC.if_ rfl (fun cd1 => ?_) (fun cd1 => ?_)
  · refine WC.seq ?_
    refine WC.region ?_
    refine WL.r 1 rfl ?_
    refine WL.nil ?_
    refine WC.ret ?_
    replace hS := St.exClose (f := arnF a A) ⟨p, na, nc, ca, cc, rd⟩ (by first | exact hS | exact hS.sel 4 [1, 0, 0, 0] rfl)
    replace hS : St g (Arn a A :: L) w := hS
    refine ⟨[.int .i64 0], rfl, ?_⟩
    exact ⟨congrArg (Value.int .i64) (by unfold AM.sz; rw [if_neg (by simpa using cd1)]), hS⟩
  · refine WC.skip ?_
    refine WC.seq ?_
    refine WC.region ?_
    refine WL.run 5 [.int .u64 rd] rfl (by exact hS.ld 1 rfl rfl) ?_
    refine WL.r 2 rfl ?_
    refine WL.st rfl rfl rfl 1 hS rfl rfl rfl rfl rfl rfl (fun w hS => ?_)
    replace hS : St g (Slt p A.s :: cel a #[.pointer (some ⟨p, 0, none⟩), .slice na (List.length (nds A.nodes)) nc, .slice ca (List.length (i64s A.cnt)) cc, .int .u64 (IntKind.u64.wrap (rd + 1))] 153 :: Own 165 8 (nds A.nodes) na nc :: Own 3 1 (i64s A.cnt) ca cc :: L) w := hS
    refine WL.nil ?_
    as_aux_lemma =>
      refine WC.seq ?_
      refine WC.region ?_
      refine WL.run 5 [.slice na (List.length (nds A.nodes)) nc] rfl (by exact hS.ld 1 rfl rfl) ?_
      have hio : A.s.ok i = true := (by simpa using cd1); have hir := SM.ok_rng hAs hi.1 hio; obtain ⟨x, hx⟩ : ∃ x, A.nodes[i.toNat]? = some x := ⟨_, List.getElem?_eq_getElem (by omega)⟩; have hxe : A.nd i = x := (by unfold AM.nd; rw [hx]; rfl)
      refine WL.ix rfl rfl (i := i) (i.toNat) el_151 rfl rfl (by omega) (by omega) (hS.rdO 2 rfl (nds_at hx)).1 ?_
      refine WL.run 3 [.int .i64 x.size] rfl (by exact (hS.rdO 2 rfl (nds_at hx)).2 4 _ rfl) ?_
      refine WL.nil ?_
      refine WC.ret ?_
      replace hS := St.exClose (f := arnF a A) ⟨p, na, nc, ca, cc, IntKind.u64.wrap (rd + 1)⟩ (by first | exact hS | exact hS.sel 4 [1, 0, 0, 0] rfl)
      replace hS : St g (Arn a A :: L) w := hS
      refine ⟨[.int .i64 x.size], rfl, ?_⟩
      exact ⟨congrArg (Value.int .i64) (by rw [sz_ok hio, hxe]), hS⟩
set_option maxRecDepth 8192 in
theorem ar_node {g w : World} {L : List HP} (a : Nat) (A : AM) (i : Int) (hA : AWf A) (hi : 0 ≤ i ∧ i < 4294967296) (hio : A.s.ok i = true) (hS : St g (Arn a A :: L) w) :
    Sp Tryz.prog 165 [.pointer (some ⟨a, 0, none⟩), .int .u32 i] w (fun v w' => v = .tuple #[.agg #[.int .i64 (A.nd i).key, .int .i64 (A.nd i).val, .int .u32 (A.nd i).lf, .int .u32 (A.nd i).rg, .int .i64 (A.nd i).size, .int .i64 (A.nd i).sum, .int .i64 (A.nd i).mn, .int .i64 (A.nd i).mx], .bool true] ∧ St g (Arn a A :: L) w') := by
  refine Sp.enter Tryz.func165 rfl (by kernel_rfl) (by kernel_rfl) ?_
  refine WC.seq ?_
  refine WC.region ?_
  obtain ⟨⟨p, na, nc, ca, cc, rd⟩, hS⟩ := St.exOpen (f := arnF a A) hS; have hAs := hA.s; have hcp := hAs.cap; have hnl := hA.nl; have hcl := hA.cl; have hbn := nds_len A.nodes; have hbc := i64s_len A.cnt
  replace hS : St g (cel a #[.pointer (some ⟨p, 0, none⟩), .slice na (List.length (nds A.nodes)) nc, .slice ca (List.length (i64s A.cnt)) cc, .int .u64 rd] 153 :: Slt p A.s :: Own 165 8 (nds A.nodes) na nc :: Own 3 1 (i64s A.cnt) ca cc :: L) w := hS
  refine WL.new rfl rfl zv_165 hS (fun b1 w hS => ?_)
  refine WL.r 1 rfl ?_
  refine WL.nil ?_
  refine WC.seq ?_
  refine WC.seq ?_
  refine WC.region ?_
  refine WL.run 5 [.pointer (some ⟨p, 0, none⟩)] rfl (by exact hS.ld 1 rfl rfl) ?_
  refine WL.call rfl rfl (sl_ok (s := p) (S := A.s) (i := i) (hl := (by first | assumption | exact SOk.le (by assumption))) (hi := hi) (hS := (hS.sel 3 [2, 0, 0] rfl))) rfl ?_
  clear hS; rintro _ w ⟨rfl, hS⟩
  replace hS : St g (Slt p A.s :: cel b1 #[.int .i64 0, .int .i64 0, .int .u32 0, .int .u32 0, .int .i64 0, .int .i64 0, .int .i64 0, .int .i64 0] 165 :: cel a #[.pointer (some ⟨p, 0, none⟩), .slice na (List.length (nds A.nodes)) nc, .slice ca (List.length (i64s A.cnt)) cc, .int .u64 rd] 153 :: Own 165 8 (nds A.nodes) na nc :: Own 3 1 (i64s A.cnt) ca cc :: L) w := hS
  refine WL.r 1 rfl ?_
  refine WL.nil ?_
  refine WC.ifF rfl (by rw [hio]; rfl) ?_
  refine WC.skip ?_
  refine WC.seq ?_
  refine WC.region ?_
  refine WL.run 5 [.int .u64 rd] rfl (by exact hS.ld 2 rfl rfl) ?_
  refine WL.r 2 rfl ?_
  refine WL.st rfl rfl rfl 2 hS rfl rfl rfl rfl rfl rfl (fun w hS => ?_)
  replace hS : St g (Slt p A.s :: cel b1 #[.int .i64 0, .int .i64 0, .int .u32 0, .int .u32 0, .int .i64 0, .int .i64 0, .int .i64 0, .int .i64 0] 165 :: cel a #[.pointer (some ⟨p, 0, none⟩), .slice na (List.length (nds A.nodes)) nc, .slice ca (List.length (i64s A.cnt)) cc, .int .u64 (IntKind.u64.wrap (rd + 1))] 153 :: Own 165 8 (nds A.nodes) na nc :: Own 3 1 (i64s A.cnt) ca cc :: L) w := hS
  refine WL.nil ?_
  as_aux_lemma =>
    refine WC.seq ?_
    refine WC.region ?_
    refine WL.run 5 [.slice na (List.length (nds A.nodes)) nc] rfl (by exact hS.ld 2 rfl rfl) ?_
    have hir := SM.ok_rng hAs hi.1 hio; obtain ⟨x, hx⟩ : ∃ x, A.nodes[i.toNat]? = some x := ⟨_, List.getElem?_eq_getElem (by omega)⟩; have hxe : A.nd i = x := (by unfold AM.nd; rw [hx]; rfl)
    refine WL.ix rfl rfl (i := i) (i.toNat) el_151 rfl rfl (by omega) (by omega) (hS.rdO 3 rfl (nds_at hx)).1 ?_
    refine WL.ldC rfl rfl [.int .i64 x.key, .int .i64 x.val, .int .u32 x.lf, .int .u32 x.rg, .int .i64 x.size, .int .i64 x.sum, .int .i64 x.mn, .int .i64 x.mx] ag_165 rfl (hS.rdO 3 rfl (nds_at hx)).2 ?_
    refine WL.stF rfl rfl rfl 1 hS rfl rfl rfl rfl rfl ag_165 (fun w hS => ?_)
    replace hS : St g (Slt p A.s :: cel b1 #[.int .i64 x.key, .int .i64 x.val, .int .u32 x.lf, .int .u32 x.rg, .int .i64 x.size, .int .i64 x.sum, .int .i64 x.mn, .int .i64 x.mx] 165 :: cel a #[.pointer (some ⟨p, 0, none⟩), .slice na (List.length (nds A.nodes)) nc, .slice ca (List.length (i64s A.cnt)) cc, .int .u64 (IntKind.u64.wrap (rd + 1))] 153 :: Own 165 8 (nds A.nodes) na nc :: Own 3 1 (i64s A.cnt) ca cc :: L) w := hS
    refine WL.r 1 rfl ?_
    refine WL.nil ?_
    refine WC.ret ?_
    replace hS := St.exClose (f := arnF a A) (L := cel b1 #[.int .i64 x.key, .int .i64 x.val, .int .u32 x.lf, .int .u32 x.rg, .int .i64 x.size, .int .i64 x.sum, .int .i64 x.mn, .int .i64 x.mx] 165 :: L) ⟨p, na, nc, ca, cc, IntKind.u64.wrap (rd + 1)⟩ (hS.sel 5 [2, 0, 1, 1, 0] rfl)
    replace hS : St g (Arn a A :: cel b1 #[.int .i64 x.key, .int .i64 x.val, .int .u32 x.lf, .int .u32 x.rg, .int .i64 x.size, .int .i64 x.sum, .int .i64 x.mn, .int .i64 x.mx] 165 :: L) w := hS
    refine ⟨[.agg #[.int .i64 x.key, .int .i64 x.val, .int .u32 x.lf, .int .u32 x.rg, .int .i64 x.size, .int .i64 x.sum, .int .i64 x.mn, .int .i64 x.mx], .bool true], ⟨⟨_, rfl, hS.lvF 1 rfl ag_165⟩, rfl⟩, ?_⟩
    replace hS := (hS.sel 2 [0] rfl)
    exact ⟨by rw [hxe]; rfl, hS⟩
set_option maxRecDepth 8192 in
theorem ar_rel {g w : World} {L : List HP} (a : Nat) (A : AM) (R : List Int) (i : Int) (hA : ARf A (i :: R)) (hR : R.length ≤ 900000000) (hS : St g (Arn a A :: L) w) :
    Sp Tryz.prog 73 [.pointer (some ⟨a, 0, none⟩), .int .u32 i] w (fun v w' => ∃ (A2 : AM) (f : Int), v = .tuple #[.int .i64 f, .int .i64 0] ∧ St g (Arn a A2 :: L) w' ∧ (ARf A2 R) ∧ (Shr A A2) ∧ (f = A2.s.free - A.s.free ∧ 0 ≤ f)) := by
  rcases hA.ref i (List.mem_cons_self ..) with rfl | ⟨h1, h2⟩
  · exact (ar_release0 a A hS).mono fun v w' ⟨hv, hS'⟩ => ⟨A, 0, hv, hS', hA.tail0, Shr.refl A, by omega, by omega⟩
  · have hr := hA.rng (List.mem_cons_self ..)
    refine (ar_release_ok a A R i hA ⟨h1, hr.2.1⟩ hR hS).mono fun v w' ⟨A2, f, hv, hS', h3, h4, h5⟩ => ⟨A2, f, hv, hS', h3, h4, h5, ?_⟩
    have e1 := AM.cnt_live hA.s
    have e2 := AM.cnt_live h3.s
    have e3 := live_sub (A := A) (B := A2) fun j h0 hj => (h4.ok j h0 hj).1
    have e4 : A.s.cap = (A.s.used.length : Int) - 1 := rfl
    have e5 : A2.s.cap = (A2.s.used.length : Int) - 1 := rfl
    have e6 := h4.cap
    omega
theorem Shr.kp {A B : AM} {R : List Int} (h : Shr A B) (hB : ARf B R) : Kp A B R := fun r hr t ht => Is.mono hB (fun j h0 hj => (h.ok j h0 hj).2) t r ht ((hB.ref r hr).imp id (·.2))
end Go.Proofs.YtlnlnebibgdjdaaGreat
/-! ## W1 -/
namespace Go.Proofs.YtlnlnebibgdjdaaGreat
open Go Go.V
set_option maxRecDepth 8192 in
theorem tr_rel {g w : World} {L : List HP} (a : Nat) (A : AM) (R : List Int) (i : Int) (hA : ARf A (i :: R)) (hR : R.length ≤ 900000000) (hS : St g (Arn a A :: L) w) :
    Sp Tryz.prog 73 [.pointer (some ⟨a, 0, none⟩), .int .u32 i] w (fun v w' => ∃ (A2 : AM) (f : Int), v = .tuple #[.int .i64 f, .int .i64 0] ∧ St g (Arn a A2 :: L) w' ∧ (Rl A A2 R) ∧ (f = A2.s.free - A.s.free)) := by
  exact (ar_rel a A R i hA hR hS).mono fun v w' ⟨A2, f, hv, hS', h1, h2, h3, h4⟩ => ⟨A2, f, hv, hS', ⟨h1, h2.kp h1, by omega, h2.cap⟩, h3⟩
set_option maxRecDepth 8192 in
theorem tr_size {g w : World} {L : List HP} (a : Nat) (A : AM) (R : List Int) (i : Int) (t : Tr) (hA : ARf A R) (hi : Is A t i) (hS : St g (Arn a A :: L) w) :
    Sp Tryz.prog 128 [.pointer (some ⟨a, 0, none⟩), .int .u32 i] w (fun v w' => v = .int .i64 (t.n : Int) ∧ St g (Arn a A :: L) w') := by
  have h := hA.okrng hi.ref
  rw [← Is.sz hA t i hi]
  exact ar_size a A i hA.toAWf (by omega) hS
set_option maxRecDepth 8192 in
theorem tw_node {g w : World} {L : List HP} (a : Nat) (A : AM) (R : List Int) (l r k z : Int) (tl tr : Tr) (hA : ARf A (l :: r :: R)) (hl : Is A tl l) (hr : Is A tr r) (hf : 0 < A.s.free) (hz : R.length + tl.n + tr.n ≤ 850000000) (hS : St g (Arn a A :: L) w) :
    Sp Tryz.prog 180 [.pointer (some ⟨a, 0, none⟩), .int .u32 l, .agg #[.int .i64 k, .int .i64 z], .int .u32 r] w (fun v w' => ∃ (A2 : AM) (i : Int), v = .int .u32 i ∧ St g (Arn a A2 :: L) w' ∧ (TOp A A2 R i (.node tl k z tr) 1)) := by
  refine Sp.enter Tryz.func180 rfl (by kernel_rfl) (by kernel_rfl) ?_
  have _ := hz
  refine WC.seq ?_
  refine WC.region ?_
  have hM := Mk.of (k := k) (v := z) hA hl hr hf (by omega) (by omega); have hrl := hA.rng (r := l) (by simp); have hrr := hA.rng (r := r) (by simp)
  refine WL.box rfl rfl #[.int .i64 k, .int .i64 z] hS rfl rfl (fun b1 w hS => ?_)
  refine WL.r 1 rfl ?_
  refine WL.nil ?_
  refine WC.seq ?_
  refine WC.region ?_
  refine WL.run 7 [.int .i64 k, .int .i64 z] rfl (by exact ⟨hS.ld 0 rfl rfl, hS.ld 0 rfl rfl⟩) ?_
  refine WL.call rfl rfl (ar_make (a := a) (A := A) (key := k) (val := z) (l := l) (r := r) (hA := hA.toAWf) (hK := hM.kd) (hf := hf) (hS := (hS.sel 2 [1, 0] rfl))) rfl ?_
  clear hS; rintro _ w ⟨rfl, hS⟩
  replace hS : St g (Arn a (A.make (A.nodeOf k z l r)) :: cel b1 #[.int .i64 k, .int .i64 z] 77 :: L) w := hS
  refine WL.r 5 rfl ?_
  refine WL.nil ?_
  refine WC.seq ?_
  refine WC.region ?_
  refine WL.r 2 rfl ?_
  refine WL.call rfl rfl (tr_rel (a := a) (A := A.make (A.nodeOf k z l r)) (R := A.s.next :: r :: R) (i := l) (hA := hM.p1) (hR := (by simp only [List.length_cons]; omega)) (hS := hS)) rfl ?_
  clear hS; rintro _ w ⟨A1, f1, rfl, hS, f2, f3⟩
  replace hS : St g (Arn a A1 :: cel b1 #[.int .i64 k, .int .i64 z] 77 :: L) w := hS
  refine WL.nil ?_
  refine WC.seq ?_
  refine WC.region ?_
  refine WL.r 2 rfl ?_
  refine WL.call rfl rfl (tr_rel (a := a) (A := A1) (R := A.s.next :: R) (i := r) (hA := f2.p1) (hR := (by simp only [List.length_cons]; omega)) (hS := hS)) rfl ?_
  clear hS; rintro _ w ⟨A2, f4, rfl, hS, f5, f6⟩
  replace hS : St g (Arn a A2 :: cel b1 #[.int .i64 k, .int .i64 z] 77 :: L) w := hS
  refine WL.nil ?_
  as_aux_lemma =>
    refine WC.seq ?_
    refine WC.region ?_
    refine WL.r 2 rfl ?_
    refine WL.nil ?_
    refine WC.ret ?_
    refine ⟨[.int .u32 A.s.next], rfl, ?_⟩
    replace hS := (hS.sel 2 [0] rfl)
    exact ⟨_, _, rfl, hS, hM.op f2 f5⟩
theorem perm3 (x y i : Int) (R : List Int) : (y :: x :: i :: R).Perm (i :: x :: y :: R) :=
  ((List.Perm.swap x y _).trans (List.Perm.cons x (List.Perm.swap i y R))).trans (List.Perm.swap i x _)
set_option maxRecDepth 8192 in
theorem tw_open {g w : World} {L : List HP} (a : Nat) (A : AM) (R : List Int) (i k z : Int) (l r : Tr) (hA : ARf A (i :: R)) (hi : Is A (.node l k z r) i) (hz : R.length ≤ 850000000) (hS : St g (Arn a A :: L) w) :
    Sp Tryz.prog 186 [.pointer (some ⟨a, 0, none⟩), .int .u32 i] w (fun v w' => ∃ (A2 : AM) (x y : Int), v = .tuple #[.int .u32 x, .agg #[.int .i64 k, .int .i64 z], .int .u32 y] ∧ St g (Arn a A2 :: L) w' ∧ (Opn A A2 R x y l r)) := by
  refine Sp.enter Tryz.func186 rfl (by kernel_rfl) (by kernel_rfl) ?_
  have _ := hz
  refine WC.seq ?_
  refine WC.region ?_
  obtain ⟨hi1, hi2, hik, hiv, hil, hir⟩ := hi; have hri := hA.rng (r := i) (by simp); have hrl := hA.okrng hil.ref; have hrr := hA.okrng hir.ref
  have hr1 := AM.ret_eq hA hil.ref (by simp; omega); have hr2 := AM.ret_eq hr1.1 (hir.ret (A.nd i).lf).ref (by simp; omega)
  refine WL.r 1 rfl ?_
  refine WL.new rfl rfl zv_77 hS (fun b1 w hS => ?_)
  refine WL.r 1 rfl ?_
  refine WL.nil ?_
  refine WC.seq ?_
  refine WC.region ?_
  refine WL.r 2 rfl ?_
  refine WL.call rfl rfl (ar_node (a := a) (A := A) (i := i) (hA := hA.toAWf) (hi := (by omega)) (hio := hi2) (hS := (hS.sel 2 [1, 0] rfl))) rfl ?_
  clear hS; rintro _ w ⟨rfl, hS⟩
  replace hS : St g (Arn a A :: cel b1 #[.int .i64 0, .int .i64 0] 77 :: L) w := hS
  refine WL.r 3 rfl ?_
  refine WL.new rfl rfl zv_165 hS (fun b2 w hS => ?_)
  refine WL.stF rfl rfl rfl 0 hS rfl rfl rfl rfl rfl ag_165 (fun w hS => ?_)
  replace hS : St g (cel b2 #[.int .i64 (A.nd i).key, .int .i64 (A.nd i).val, .int .u32 (A.nd i).lf, .int .u32 (A.nd i).rg, .int .i64 (A.nd i).size, .int .i64 (A.nd i).sum, .int .i64 (A.nd i).mn, .int .i64 (A.nd i).mx] 165 :: Arn a A :: cel b1 #[.int .i64 0, .int .i64 0] 77 :: L) w := hS
  refine WL.r 1 rfl ?_
  refine WL.nil ?_
  refine WC.seq ?_
  refine WC.seq ?_
  refine WC.region ?_
  refine WL.r 2 rfl ?_
  refine WL.nil ?_
  as_aux_lemma =>
    refine WC.ifF rfl rfl ?_
    refine WC.skip ?_
    refine WC.seq ?_
    refine WC.region ?_
    refine WL.run 3 [.int .u32 (A.nd i).lf] rfl (by exact hS.ld 0 rfl rfl) ?_
    refine WL.call rfl rfl (ar_retain (a := a) (A := A) (i := (A.nd i).lf) (hA := hA.toAWf) (hi := (by omega)) (hS := (hS.sel 2 [1, 0] rfl))) rfl ?_
    clear hS; rintro _ w ⟨rfl, hS⟩
    replace hS : St g (Arn a (A.ret (A.nd i).lf) :: cel b2 #[.int .i64 (A.nd i).key, .int .i64 (A.nd i).val, .int .u32 (A.nd i).lf, .int .u32 (A.nd i).rg, .int .i64 (A.nd i).size, .int .i64 (A.nd i).sum, .int .i64 (A.nd i).mn, .int .i64 (A.nd i).mx] 165 :: cel b1 #[.int .i64 0, .int .i64 0] 77 :: L) w := hS
    refine WL.nil ?_
    refine WC.seq ?_
    refine WC.region ?_
    refine WL.run 3 [.int .u32 (A.nd i).rg] rfl (by exact hS.ld 1 rfl rfl) ?_
    refine WL.call rfl rfl (ar_retain (a := a) (A := A.ret (A.nd i).lf) (i := (A.nd i).rg) (hA := hr1.1.toAWf) (hi := (by omega)) (hS := hS)) rfl ?_
    clear hS; rintro _ w ⟨rfl, hS⟩
    replace hS : St g (Arn a ((A.ret (A.nd i).lf).ret (A.nd i).rg) :: cel b2 #[.int .i64 (A.nd i).key, .int .i64 (A.nd i).val, .int .u32 (A.nd i).lf, .int .u32 (A.nd i).rg, .int .i64 (A.nd i).size, .int .i64 (A.nd i).sum, .int .i64 (A.nd i).mn, .int .i64 (A.nd i).mx] 165 :: cel b1 #[.int .i64 0, .int .i64 0] 77 :: L) w := hS
    refine WL.nil ?_
    refine WC.seq ?_
    refine WC.region ?_
    refine WL.r 2 rfl ?_
    refine WL.call rfl rfl (tr_rel (a := a) (A := (A.ret (A.nd i).lf).ret (A.nd i).rg) (R := (A.nd i).lf :: (A.nd i).rg :: R) (i := i) (hA := (hr2.1.perm (perm3 _ _ _ _))) (hR := (by simp only [List.length_cons]; omega)) (hS := hS)) rfl ?_
    clear hS; rintro _ w ⟨A1, f1, rfl, hS, f2, f3⟩
    replace hS : St g (Arn a A1 :: cel b2 #[.int .i64 (A.nd i).key, .int .i64 (A.nd i).val, .int .u32 (A.nd i).lf, .int .u32 (A.nd i).rg, .int .i64 (A.nd i).size, .int .i64 (A.nd i).sum, .int .i64 (A.nd i).mn, .int .i64 (A.nd i).mx] 165 :: cel b1 #[.int .i64 0, .int .i64 0] 77 :: L) w := hS
    refine WL.nil ?_
    refine WC.seq ?_
    refine WC.plan [([0, 2, 4, 7, 1, 3, 5, 8, 9], some (6, [0, 1, 7, 8, 9])), ([], some (10, [7, 8])), ([11], none)] (by kernel_rfl) (by kernel_rfl) ?_
    refine WQ.run 9 [.int .u32 (A.nd i).lf, .int .i64 (A.nd i).key, .int .i64 (A.nd i).val, .int .u32 (A.nd i).rg] rfl (by exact ⟨hS.ld 1 rfl rfl, hS.ld 1 rfl rfl, hS.ld 1 rfl rfl, hS.ld 1 rfl rfl⟩) ?_
    refine WQ.nil ?_
    intro m1
    replace hS := hS.drewN m1; generalize hwm1 : World.drewN _ _ = w at *; clear hwm1
    refine WL.build rfl rfl (cs := [.int .i64 (A.nd i).key, .int .i64 (A.nd i).val]) zv_77 rfl rfl ?_
    refine WL.nil ?_
    refine ⟨by exact ⟨RQ.pure rfl rfl rfl rfl, RQ.load rfl rfl rfl rfl (hS.ld 1 rfl rfl), RQ.pure rfl rfl rfl rfl, RQ.load rfl rfl rfl rfl (hS.ld 1 rfl rfl), RQ.pure rfl rfl rfl rfl⟩, ?_⟩
    refine WQ.nil ?_
    intro m2
    replace hS := hS.drewN m2; generalize hwm2 : World.drewN _ _ = w at *; clear hwm2
    refine WL.stF rfl rfl rfl 2 hS rfl rfl rfl rfl rfl ag_77 (fun w hS => ?_)
    replace hS : St g (Arn a A1 :: cel b2 #[.int .i64 (A.nd i).key, .int .i64 (A.nd i).val, .int .u32 (A.nd i).lf, .int .u32 (A.nd i).rg, .int .i64 (A.nd i).size, .int .i64 (A.nd i).sum, .int .i64 (A.nd i).mn, .int .i64 (A.nd i).mx] 165 :: cel b1 #[.int .i64 (A.nd i).key, .int .i64 (A.nd i).val] 77 :: L) w := hS
    refine WL.nil ?_
    refine ⟨by exact ⟨RQ.pure rfl rfl rfl rfl, RQ.load rfl rfl rfl rfl (hS.ld 1 rfl rfl)⟩, ?_⟩
    refine WQ.r 1 rfl ?_
    refine WQ.nil ?_
    intro m3
    replace hS := hS.drewN m3; generalize hwm3 : World.drewN _ _ = w at *; clear hwm3
    as_aux_lemma =>
      refine WC.ret ?_
      refine ⟨[.int .u32 (A.nd i).lf, .agg #[.int .i64 (A.nd i).key, .int .i64 (A.nd i).val], .int .u32 (A.nd i).rg], ⟨rfl, ⟨_, rfl, hS.lvF 2 rfl ag_77⟩, rfl⟩, ?_⟩
      replace hS := (hS.sel 3 [0] rfl)
      exact ⟨_, _, _, by rw [← hik, ← hiv]; rfl, hS, Opn.of ⟨hi1, hi2, hik, hiv, hil, hir⟩ f2⟩
theorem bif_and (p q : Prop) [Decidable p] [Decidable q] : (bif decide p then decide q else false) = decide (p ∧ q) := by
  by_cases h1 : p <;> by_cases h2 : q <;> simp [h1, h2]
set_option maxRecDepth 8192 in
theorem bal_spec {g w : World} {L : List HP} (x y : Int) (hx : 0 ≤ x ∧ x ≤ 2000000000) (hy : 0 ≤ y ∧ y ≤ 2000000000) (hS : St g (L) w) :
    Sp Tryz.prog 221 [.int .i64 x, .int .i64 y] w (fun v w' => v = .bool (decide (x + 1 ≤ 3 * (y + 1) ∧ y + 1 ≤ 3 * (x + 1))) ∧ St g (L) w') := by
  refine Sp.enter Tryz.func221 rfl (by kernel_rfl) (by kernel_rfl) ?_
  have _ := hy
  have _ := hx
  refine WC.seq ?_
  refine WC.region ?_
  refine WL.r 1 rfl ?_
  refine WL.nil ?_
  refine WC.seq ?_
  refine WC.seq ?_
  refine WC.region ?_
  refine WL.r 2 rfl ?_
  refine WL.rG 12 rfl (fun j => ?_)
  refine WL.prop 18 rfl (bor (bor (bor (dd _) (dd _)) (dd _)) (dd _)) ?_
  refine WL.nil ?_
  refine WC.ifF rfl (decide_eq_false ((by omega))) ?_
  refine WC.skip ?_
  refine WC.seq ?_
  refine WC.region ?_
  refine WL.r 2 rfl ?_
  refine WL.nw 20 rfl (w64 (by omega)) ?_
  refine WL.r 2 rfl ?_
  refine WL.nw 22 rfl (w64 (by omega)) ?_
  refine WL.r 1 rfl ?_
  refine WL.nw 23 rfl (w64 (by omega)) ?_
  refine WL.r 1 rfl ?_
  refine WL.rG 9 rfl (fun j => ?_)
  refine WL.prop 32 rfl (band (dd _) (dd _)) ?_
  refine WL.nil ?_
  as_aux_lemma =>
    refine WC.ret ?_
    refine ⟨[.bool (bif (decide ((x + 1) ≤ (3 * (y + 1)))) then (decide ((IntKind.i64.wrap (y + 1)) ≤ (IntKind.i64.wrap (3 * (IntKind.i64.wrap (x + 1)))))) else false)], rfl, ?_⟩
    exact ⟨congrArg Value.bool (by rw [w64 (z := y + 1) (by omega), w64 (z := x + 1) (by omega), w64 (z := 3 * (x + 1)) (by omega), bif_and]), hS⟩
end Go.Proofs.YtlnlnebibgdjdaaGreat
/-! ## Aga -/
namespace Go.V
open Go Go.RowKit Go.Maps Go.Sort
section
variable {g w w' : World} {L : List HP} {e size n : Nat} {v : Value} {xs : List Value}
theorem St.of_row (ls : List (List Value)) (h : St g L w) (hb : Below w.heap.size w w') (hr : w'.ownsRow w.heap.size e size v n xs) (hls : ls.flatten = xs) (hn : ls.length = n) (hok : OkE size ls) :
    ∃ a c, v = .slice a ls.length c ∧ St g (Own e size ls a c :: L) w' := by
  subst hn; subst hls
  have h0 : St g (pur True :: L) w := h.add fun _ _ => trivial
  obtain ⟨b1, b2, b3, b4, b5⟩ := hb
  obtain ⟨_, ⟨rfl, hn⟩ | ⟨q, cap, cur, rfl, hq, hcur, h1, h2, h3, h4⟩⟩ := hr
  · have hz : ls = [] := List.length_eq_zero_iff.1 hn
    subst hz
    refine ⟨none, 0, rfl, h0.upd b1 b2 b3 b4 fun o1 r _ _ _ _ => ⟨fun _ => none, ⟨OkE.nil _, .inl ⟨rfl, rfl, rfl⟩⟩, fun _ _ h => (by cases h), fun k hk => absurd rfl hk, fun k hk _ => b5 k hk⟩⟩
  · refine ⟨some ⟨q, 0, none⟩, cap, rfl, h0.upd b1 b2 b3 b4 fun o1 r _ _ _ _ => ⟨fun k => if k = q then some (.cells cur e (0, 0)) else none, ⟨hok, .inr ⟨q, cur, rfl, by simp, h1, h2, h3, h4⟩⟩, fun k x hx => ?_, fun k hk => ?_, fun k hk _ => b5 k hk⟩⟩
    · simp only at hx
      split at hx
      · rename_i hk; subst hk; simp only [Option.some.injEq] at hx; subst hx; exact hcur
      · cases hx
    · simp only [ne_eq, ite_eq_right_iff, reduceCtorEq, imp_false, Classical.not_not] at hk
      exact .inr (by omega)
end
section
variable {g w : World} {L : List HP} {e c : Nat} {ls : List Int} {b : Nat}
theorem i64s_flat (l : List Int) : (i64s l).flatten = l.map (Value.int .i64) := by
  induction l with
  | nil => rfl
  | cons x l ih => simp only [i64s, List.map_cons, List.flatten_cons, List.singleton_append] at ih ⊢; rw [ih]
end
theorem sort_eqI {ys ss : List Int} (hp : ss.Perm ys) (hs : ss.Pairwise (· ≤ ·)) : ys.mergeSort (fun x y => decide (x ≤ y)) = ss := by
  have h1 := mergeSort_of_perm_i hp
  show ys.mergeSort leI = _
  rw [← h1]
  exact List.mergeSort_of_pairwise (le := leI) (hs.imp fun h => decide_eq_true h)
end Go.V
namespace Go.V
open Go Go.RowKit Go.Maps
structure VN where
  n : Int
  live : Bool
  ab : List Int
  a : Option Addr
  c : Nat
  born : Nat
def VUq (xs : List VN) : Prop := xs.Pairwise fun x y => x.n ≠ y.n
theorem VUq.one {R : List VN} (h : VUq R) {i j : Nat} {x y : VN} (hi : R[i]? = some x) (hj : R[j]? = some y) (he : x.n = y.n) : i = j := by
  have h1 := (List.getElem?_eq_some_iff.1 hi).1
  have h2 := (List.getElem?_eq_some_iff.1 hj).1
  have e1 : R[i] = x := (List.getElem?_eq_some_iff.1 hi).2
  have e2 : R[j] = y := (List.getElem?_eq_some_iff.1 hj).2
  rcases Nat.lt_trichotomy i j with hl | hl | hl
  · exact absurd (by rw [e1, e2]; exact he) (List.pairwise_iff_getElem.1 h i j h1 h2 hl)
  · exact hl
  · exact absurd (by rw [e1, e2]; exact he.symm) (List.pairwise_iff_getElem.1 h j i h2 h1 hl)
def vfind (xs : List VN) (n : Int) : Option VN := xs.find? fun x => decide (x.n = n)
def liveG (xs : List VN) (n : Int) : Bool := ((vfind xs n).map (·.live)).getD false
def preG (xs : List VN) (n : Int) : Bool := (vfind xs n).isSome
def abG (xs : List VN) (n : Int) : List Int := ((vfind xs n).map (·.ab)).getD []
theorem vfind_in {xs : List VN} {k : Nat} {x : VN} (hx : xs[k]? = some x) (hu : VUq xs) : vfind xs x.n = some x := by
  cases hf : vfind xs x.n with
  | none =>
    have := List.find?_eq_none.1 hf x (List.mem_of_getElem? hx)
    exact absurd (decide_eq_true rfl) this
  | some y =>
    have hn : y.n = x.n := of_decide_eq_true (List.find?_some (p := fun q : VN => decide (q.n = x.n)) hf)
    obtain ⟨j, hj⟩ := List.mem_iff_getElem?.1 (List.mem_of_find?_eq_some hf)
    have := hu.one hj hx hn
    subst this
    rw [hj] at hx; exact hx
theorem vfind_out {xs : List VN} {n : Int} (h : ∀ x ∈ xs, x.n ≠ n) : vfind xs n = none := by
  refine List.find?_eq_none.2 fun x hx he => h x hx (of_decide_eq_true he)
theorem vfind_some {xs : List VN} {n : Int} {x : VN} (h : vfind xs n = some x) : x ∈ xs ∧ x.n = n := ⟨List.mem_of_find?_eq_some h, of_decide_eq_true (List.find?_some (p := fun q : VN => decide (q.n = n)) h)⟩
theorem vfind_none {xs : List VN} {n : Int} : vfind xs n = none ↔ ∀ x ∈ xs, x.n ≠ n := ⟨fun h x hx e => List.find?_eq_none.1 h x hx (decide_eq_true e), vfind_out⟩
theorem vfind_mem {xs : List VN} {x : VN} (hx : x ∈ xs) (hu : VUq xs) : vfind xs x.n = some x := by
  obtain ⟨k, hk⟩ := List.mem_iff_getElem?.1 hx
  exact vfind_in hk hu
theorem g_in {xs : List VN} {n : Int} {x : VN} (h : vfind xs n = some x) : liveG xs n = x.live ∧ preG xs n = true ∧ abG xs n = x.ab := by simp [liveG, preG, abG, h]
theorem g_out {xs : List VN} {n : Int} (h : vfind xs n = none) : liveG xs n = false ∧ preG xs n = false ∧ abG xs n = [] := by simp [liveG, preG, abG, h]
theorem live_pre {xs : List VN} {n : Int} (h : liveG xs n = true) : preG xs n = true := by
  unfold liveG at h; unfold preG
  cases hf : vfind xs n with
  | none => rw [hf] at h; cases h
  | some x => rfl
theorem pre_iff {xs : List VN} {n : Int} : preG xs n = true ↔ ∃ x ∈ xs, x.n = n := by
  unfold preG
  cases hf : vfind xs n with
  | none => exact ⟨fun h => (by cases h), fun ⟨x, hx, hn⟩ => absurd hn (vfind_none.1 hf x hx)⟩
  | some x => exact ⟨fun _ => ⟨x, vfind_some hf⟩, fun _ => rfl⟩
structure VOk (xs : List VN) (q : Nat) : Prop where
  uniq : VUq xs
  born : ∀ x ∈ xs, x.born < q
  bnd : (xs.map (·.born)).Nodup
  rng : ∀ x ∈ xs, 1 ≤ x.n ∧ x.n ≤ 1000000000
  num : xs.length ≤ 4096
section
variable {P : Program} {k : TypeId}
def noRdI (_ : Value) : Option (DataW Unit × List MemPlace) := some (.nil, [])
end
end Go.V
namespace Go.V
open Go Go.RowKit
def Asc (l : List Int) : Prop := l.Pairwise fun a b => a < b
def gcm (l m : List Int) : Int := ((l.filter fun z => decide (z ∈ m)).getLast?).getD 0
theorem Asc.nodup {l : List Int} (h : Asc l) : l.Nodup := h.imp fun h => by omega
theorem Asc.last {l : List Int} (h : Asc l) {u : Int} (hu : u ∈ l) (hm : ∀ z ∈ l, z ≤ u) : l.getLast? = some u := by
  induction l with
  | nil => cases hu
  | cons x t ih =>
    have hp := List.pairwise_cons.1 h
    cases t with
    | nil => simp at hu; subst hu; rfl
    | cons y t =>
      rw [List.getLast?_cons_cons]
      refine ih hp.2 ?_ fun z hz => hm z (List.mem_cons_of_mem _ hz)
      rcases List.mem_cons.1 hu with rfl | hu
      · have h1 := hp.1 y (List.mem_cons_self ..)
        have h2 := hm y (List.mem_cons_of_mem _ (List.mem_cons_self ..))
        omega
      · exact hu
theorem gcm_is {l m : List Int} (h : Asc l) {u : Int} (h1 : u ∈ l) (h2 : u ∈ m) (hm : ∀ z ∈ l, z ∈ m → z ≤ u) : gcm l m = u := by
  unfold gcm
  have h3 : Asc (l.filter fun z => decide (z ∈ m)) := h.sublist List.filter_sublist
  rw [h3.last (List.mem_filter.2 ⟨h1, decide_eq_true h2⟩) fun z hz => hm z (List.mem_filter.1 hz).1 (of_decide_eq_true (List.mem_filter.1 hz).2)]
  rfl
theorem gcm_no {l m : List Int} (h : ∀ z ∈ l, z ∉ m) : gcm l m = 0 := by
  unfold gcm
  rw [List.filter_eq_nil_iff.2 fun z hz hd => h z hz (of_decide_eq_true hd)]
  rfl
theorem Asc.max_ex {l : List Int} (h : Asc l) (hne : l ≠ []) : ∃ u ∈ l, ∀ z ∈ l, z ≤ u := by
  refine ⟨l.getLast hne, List.getLast_mem hne, fun z hz => ?_⟩
  induction l with
  | nil => exact absurd rfl hne
  | cons x t ih =>
    have hp := List.pairwise_cons.1 h
    cases t with
    | nil => simp at hz; subst hz; exact Int.le_refl _
    | cons y t =>
      rw [List.getLast_cons (by simp)]
      rcases List.mem_cons.1 hz with rfl | hz
      · have h1 := hp.1 _ (List.getLast_mem (l := y :: t) (by simp)); omega
      · exact ih hp.2 (by simp) hz
theorem gcm_cases {l m : List Int} (h : Asc l) : (gcm l m = 0 ∧ ∀ z ∈ l, z ∉ m) ∨ (gcm l m ∈ l ∧ gcm l m ∈ m ∧ ∀ z ∈ l, z ∈ m → z ≤ gcm l m) := by
  by_cases hne : (l.filter fun z => decide (z ∈ m)) = []
  · have h1 : ∀ z ∈ l, z ∉ m := fun z hz hzm => List.filter_eq_nil_iff.1 hne z hz (decide_eq_true hzm)
    exact .inl ⟨gcm_no h1, h1⟩
  · obtain ⟨u, hu, hm⟩ := (show Asc _ from h.sublist List.filter_sublist).max_ex hne
    have h1 := (List.mem_filter.1 hu).1
    have h2 : u ∈ m := of_decide_eq_true (List.mem_filter.1 hu).2
    have h3 : ∀ z ∈ l, z ∈ m → z ≤ u := fun z hz hzm => hm z (List.mem_filter.2 ⟨hz, decide_eq_true hzm⟩)
    rw [gcm_is h h1 h2 h3]
    exact .inr ⟨h1, h2, h3⟩
def baseG (xs : List VN) (x y : Int) : Int := if liveG xs x = true ∧ liveG xs y = true then gcm (abG xs x) (abG xs y) else 0
structure GOk (xs : List VN) (q : Nat) : Prop extends VOk xs q where
  asc : ∀ x ∈ xs, Asc x.ab
  self : ∀ x ∈ xs, x.n ∈ x.ab
  le : ∀ x ∈ xs, ∀ z ∈ x.ab, z ≤ x.n
  pre : ∀ x ∈ xs, ∀ z ∈ x.ab, preG xs z = true
  tr : ∀ x ∈ xs, ∀ z ∈ x.ab, ∀ u ∈ abG xs z, u ∈ x.ab
theorem nd_le : ∀ {l m : List Int}, l.Nodup → (∀ z ∈ l, z ∈ m) → l.length ≤ m.length
  | [], _, _, _ => Nat.zero_le _
  | x :: t, m, h, hs => by
    have hp := List.nodup_cons.1 h
    have h1 := List.perm_cons_erase (hs x (List.mem_cons_self ..))
    have h2 : t.length ≤ (m.erase x).length := nd_le hp.2 fun z hz => by
      have h3 := h1.mem_iff.1 (hs z (List.mem_cons_of_mem _ hz))
      rcases List.mem_cons.1 h3 with rfl | h3
      · exact absurd hz hp.1
      · exact h3
    have h4 := h1.length_eq
    simp only [List.length_cons] at h4 ⊢
    omega
theorem GOk.len {xs : List VN} {q : Nat} (h : GOk xs q) {x : VN} (hx : x ∈ xs) : x.ab.length ≤ xs.length := by
  have h1 : x.ab.length ≤ (xs.map VN.n).length := by
    refine nd_le (h.asc x hx).nodup fun z hz => ?_
    obtain ⟨y, hy, hn⟩ := pre_iff.1 (h.pre x hx z hz)
    exact List.mem_map.2 ⟨y, hy, hn⟩
  simpa using h1
theorem GOk.nil : GOk [] 0 := ⟨⟨List.Pairwise.nil, fun _ h => (by cases h), List.nodup_nil, fun _ h => (by cases h), by simp⟩, fun _ h => (by cases h), fun _ h => (by cases h), fun _ h => (by cases h), fun _ h => (by cases h), fun _ h => (by cases h)⟩
end Go.V
namespace Go.V
open Go Go.RowKit
def newAb (xs : List VN) (n : Int) (ps : List Int) : List Int := [n] ++ ps.flatMap (abG xs)
theorem vfind_app {xs : List VN} {v : VN} (hn : ∀ x ∈ xs, x.n ≠ v.n) (n : Int) : vfind (xs ++ [v]) n = if n = v.n then some v else vfind xs n := by
  unfold vfind
  rw [List.find?_append]
  by_cases h : n = v.n
  · subst h
    rw [if_pos rfl, show xs.find? (fun x => decide (x.n = v.n)) = none from vfind_out hn]
    simp
  · rw [if_neg h]
    cases hf : xs.find? (fun x => decide (x.n = n)) with
    | some x => rfl
    | none =>
      simp only [Option.none_or, List.find?_cons, List.find?_nil]
      rw [decide_eq_false (fun e => h e.symm)]
theorem GOk.add {xs : List VN} {q : Nat} (h : GOk xs q) {v : VN} {ps : List Int} (hn : ∀ x ∈ xs, x.n < v.n) (hr : 1 ≤ v.n ∧ v.n ≤ 1000000000) (hb : v.born = q) (hl : xs.length < 4096)
    (ha : Asc v.ab) (hm : ∀ z, z ∈ v.ab ↔ z ∈ newAb xs v.n ps) : GOk (xs ++ [v]) (q + 1) := by
  have hne : ∀ x ∈ xs, x.n ≠ v.n := fun x hx e => by have := hn x hx; omega
  have hf := vfind_app hne
  have hold : ∀ z ∈ ps.flatMap (abG xs), ∃ x ∈ xs, z ∈ x.ab := fun z hz => by
    obtain ⟨p, _, hz⟩ := List.mem_flatMap.1 hz
    cases hp : vfind xs p with
    | none => rw [(g_out hp).2.2] at hz; cases hz
    | some x => rw [(g_in hp).2.2] at hz; exact ⟨x, (vfind_some hp).1, hz⟩
  have hm2 : ∀ z, z ∈ v.ab ↔ z = v.n ∨ z ∈ ps.flatMap (abG xs) := fun z => by rw [hm]; simp [newAb]
  have hpre : ∀ z, preG xs z = true → preG (xs ++ [v]) z = true := fun z hz => by
    obtain ⟨x, hx, e⟩ := pre_iff.1 hz
    exact pre_iff.2 ⟨x, List.mem_append_left _ hx, e⟩
  have hlt : ∀ z, preG xs z = true → z < v.n := fun z hz => by
    obtain ⟨x, hx, e⟩ := pre_iff.1 hz
    have := hn x hx; omega
  have hab : ∀ z, z ≠ v.n → abG (xs ++ [v]) z = abG xs z := fun z hz => by unfold abG; rw [hf, if_neg hz]
  refine ⟨⟨?_, fun x hx => ?_, ?_, fun x hx => ?_, by simp; omega⟩, fun x hx => ?_, fun x hx => ?_, fun x hx z hz => ?_, fun x hx z hz => ?_, fun x hx z hz u hu => ?_⟩
  · refine List.pairwise_append.2 ⟨h.uniq, List.pairwise_singleton _ _, fun a hax b hbx => ?_⟩
    simp only [List.mem_singleton] at hbx; subst hbx; exact hne a hax
  · rcases List.mem_append.1 hx with hx | hx
    · have := h.born x hx; omega
    · simp only [List.mem_singleton] at hx; subst hx; omega
  · rw [List.map_append, List.nodup_append]
    refine ⟨h.bnd, by simp, fun a ha b hb2 => ?_⟩
    obtain ⟨x, hx, rfl⟩ := List.mem_map.1 ha
    simp only [List.map_cons, List.map_nil, List.mem_singleton] at hb2
    have := h.born x hx; omega
  · rcases List.mem_append.1 hx with hx | hx
    · exact h.rng x hx
    · simp only [List.mem_singleton] at hx; subst hx; exact hr
  · rcases List.mem_append.1 hx with hx | hx
    · exact h.asc x hx
    · simp only [List.mem_singleton] at hx; subst hx; exact ha
  · rcases List.mem_append.1 hx with hx | hx
    · exact h.self x hx
    · simp only [List.mem_singleton] at hx; subst hx; exact (hm2 _).2 (.inl rfl)
  · rcases List.mem_append.1 hx with hx | hx
    · exact h.le x hx z hz
    · simp only [List.mem_singleton] at hx; subst hx
      rcases (hm2 z).1 hz with rfl | hz
      · exact Int.le_refl _
      · obtain ⟨y, hy, hzy⟩ := hold z hz
        have := h.le y hy z hzy
        have := hn y hy
        omega
  · rcases List.mem_append.1 hx with hx | hx
    · exact hpre z (h.pre x hx z hz)
    · simp only [List.mem_singleton] at hx; subst hx
      rcases (hm2 z).1 hz with rfl | hz
      · exact pre_iff.2 ⟨x, List.mem_append_right _ (List.mem_singleton.2 rfl), rfl⟩
      · obtain ⟨y, hy, hzy⟩ := hold z hz
        exact hpre z (h.pre y hy z hzy)
  · rcases List.mem_append.1 hx with hx | hx
    · have h1 := hlt z (h.pre x hx z hz)
      rw [hab z (by omega)] at hu
      exact h.tr x hx z hz u hu
    · simp only [List.mem_singleton] at hx; subst hx
      rcases (hm2 z).1 hz with rfl | hz
      · unfold abG at hu; rw [hf, if_pos rfl] at hu; exact hu
      · obtain ⟨p, hp, hzp⟩ := List.mem_flatMap.1 hz
        cases hfp : vfind xs p with
        | none => rw [(g_out hfp).2.2] at hzp; cases hzp
        | some y =>
          rw [(g_in hfp).2.2] at hzp
          have hy := (vfind_some hfp).1
          have h1 := hlt z (h.pre y hy z hzp)
          rw [hab z (by omega)] at hu
          refine (hm2 u).2 (.inr (List.mem_flatMap.2 ⟨p, hp, ?_⟩))
          rw [(g_in hfp).2.2]
          exact h.tr y hy z hzp u hu
end Go.V
namespace Go.V
open Go Go.RowKit
def vw (xs : List VN) (z : Int) : Option (Bool × List Int) := (vfind xs z).map fun x => (x.live, x.ab)
theorem live_vw (xs : List VN) (z : Int) : liveG xs z = ((vw xs z).map (·.1)).getD false := by
  unfold liveG vw; cases vfind xs z <;> rfl
theorem pre_vw (xs : List VN) (z : Int) : preG xs z = (vw xs z).isSome := by
  unfold preG vw; cases vfind xs z <;> rfl
theorem ab_vw (xs : List VN) (z : Int) : abG xs z = ((vw xs z).map (·.2)).getD [] := by
  unfold abG vw; cases vfind xs z <;> rfl
theorem VUq.set {xs : List VN} {j : Nat} {u u' : VN} (hu : VUq xs) (hj : xs[j]? = some u) (hn : u'.n = u.n) : VUq (xs.set j u') := by
  unfold VUq at hu ⊢
  rw [← List.pairwise_map (f := VN.n) (R := fun a b => a ≠ b)] at hu ⊢
  have hl := (List.getElem?_eq_some_iff.1 hj).1
  have he := (List.getElem?_eq_some_iff.1 hj).2
  have : (xs.set j u').map VN.n = xs.map VN.n := by
    rw [List.map_set, hn]
    have h5 : (xs.map VN.n)[j]'(by simpa using hl) = u.n := by simp [he]
    rw [← h5]; exact List.set_getElem_self _
  rw [this]; exact hu
theorem VOk.rem {xs : List VN} {q : Nat} (h : VOk xs q) (j : Nat) : VOk (xs.eraseIdx j) q := by
  have hs := List.eraseIdx_sublist xs j
  exact ⟨h.uniq.sublist hs, fun x hx => h.born x (hs.subset hx), h.bnd.sublist (hs.map _), fun x hx => h.rng x (hs.subset hx), Nat.le_trans hs.length_le h.num⟩
theorem VOk.set {xs : List VN} {q j : Nat} {u u' : VN} (h : VOk xs q) (hj : xs[j]? = some u) (hn : u'.n = u.n) (hb : u'.born = u.born) : VOk (xs.set j u') q := by
  have hm := List.mem_of_getElem? hj
  have hl := (List.getElem?_eq_some_iff.1 hj).1
  have he := (List.getElem?_eq_some_iff.1 hj).2
  have hmem : ∀ x ∈ xs.set j u', x = u' ∨ x ∈ xs := fun x hx => (List.mem_or_eq_of_mem_set hx).symm
  refine ⟨h.uniq.set hj hn, fun x hx => ?_, ?_, fun x hx => ?_, by rw [List.length_set]; exact h.num⟩
  · rcases hmem x hx with rfl | hx
    · rw [hb]; exact h.born u hm
    · exact h.born x hx
  · have : (xs.set j u').map VN.born = xs.map VN.born := by
      rw [List.map_set, hb]
      have h5 : (xs.map VN.born)[j]'(by simpa using hl) = u.born := by simp [he]
      rw [← h5]; exact List.set_getElem_self _
    rw [this]; exact h.bnd
  · rcases hmem x hx with rfl | hx
    · rw [hn]; exact h.rng u hm
    · exact h.rng x hx
end Go.V
namespace Go.V
open Go Go.RowKit
def needG (xs : List VN) (z : Int) : Prop := liveG xs z = true ∨ (0 < z ∧ ∃ x y, liveG xs x = true ∧ liveG xs y = true ∧ x < y ∧ baseG xs x y = z)
structure Keys (xs : List VN) (ss : List Int) : Prop where
  perm : ss.Perm (xs.map VN.n)
  asc : Asc ss
theorem Keys.le {xs : List VN} {ss : List Int} (h : Keys xs ss) : ss.Pairwise (· ≤ ·) := h.asc.imp fun h => by omega
theorem Keys.mem {xs : List VN} {ss : List Int} (h : Keys xs ss) (z : Int) : z ∈ ss ↔ preG xs z = true := by
  rw [h.perm.mem_iff, pre_iff, List.mem_map]
end Go.V
namespace Go.V
open Go Go.RowKit
structure GF (f : Int → Option (Bool × List Int)) : Prop where
  asc : ∀ z l a, f z = some (l, a) → Asc a
  self : ∀ z l a, f z = some (l, a) → z ∈ a
  le : ∀ z l a, f z = some (l, a) → ∀ u ∈ a, u ≤ z
  pre : ∀ z l a, f z = some (l, a) → ∀ u ∈ a, (f u).isSome = true
  tr : ∀ z l a, f z = some (l, a) → ∀ u ∈ a, ∀ l' a', f u = some (l', a') → ∀ t ∈ a', t ∈ a
theorem vw_some {xs : List VN} {z : Int} {l : Bool} {a : List Int} (h : vw xs z = some (l, a)) : ∃ x, vfind xs z = some x ∧ x.live = l ∧ x.ab = a := by
  unfold vw at h
  cases hf : vfind xs z with
  | none => rw [hf] at h; cases h
  | some x => rw [hf] at h; simp at h; exact ⟨x, rfl, h.1, h.2⟩
theorem vw_mem {xs : List VN} (hu : VUq xs) {x : VN} (hx : x ∈ xs) : vw xs x.n = some (x.live, x.ab) := by unfold vw; rw [vfind_mem hx hu]; rfl
theorem GOk.gf {xs : List VN} {q : Nat} (h : GOk xs q) : GF (vw xs) := by
  refine ⟨fun z l a hz => ?_, fun z l a hz => ?_, fun z l a hz => ?_, fun z l a hz u hu => ?_, fun z l a hz u hu l' a' hu' t ht => ?_⟩
  all_goals obtain ⟨x, hx, rfl, rfl⟩ := vw_some hz
  all_goals obtain ⟨h1, h2⟩ := vfind_some hx
  · exact h.asc x h1
  · subst h2; exact h.self x h1
  · subst h2; exact h.le x h1
  · rw [← pre_vw]; exact h.pre x h1 u hu
  · refine h.tr x h1 u hu t ?_
    rw [ab_vw, hu']; exact ht
def keep (N : Int → Bool) (f : Int → Option (Bool × List Int)) (z : Int) : Option (Bool × List Int) := if N z = true then (f z).map fun p => (p.1, p.2.filter N) else none
theorem keep_some {N : Int → Bool} {f : Int → Option (Bool × List Int)} {z : Int} {l : Bool} {a : List Int} (h : keep N f z = some (l, a)) : N z = true ∧ ∃ a0, f z = some (l, a0) ∧ a = a0.filter N := by
  unfold keep at h
  split at h
  · rename_i hN
    cases hf : f z with
    | none => rw [hf] at h; cases h
    | some p => rw [hf] at h; simp at h; exact ⟨hN, p.2, by rw [← h.1], h.2.symm⟩
  · cases h
theorem GF.keep {f : Int → Option (Bool × List Int)} (h : GF f) (N : Int → Bool) : GF (keep N f) := by
  refine ⟨fun z l a hz => ?_, fun z l a hz => ?_, fun z l a hz => ?_, fun z l a hz u hu => ?_, fun z l a hz u hu l' a' hu' t ht => ?_⟩
  all_goals obtain ⟨hN, a0, h0, rfl⟩ := keep_some hz
  · exact (h.asc z l a0 h0).sublist List.filter_sublist
  · exact List.mem_filter.2 ⟨h.self z l a0 h0, hN⟩
  · exact fun u hu => h.le z l a0 h0 u (List.mem_filter.1 hu).1
  · obtain ⟨h1, h2⟩ := List.mem_filter.1 hu
    have h3 := h.pre z l a0 h0 u h1
    unfold Go.V.keep
    rw [if_pos h2]
    cases hf : f u with
    | none => rw [hf] at h3; cases h3
    | some p => rfl
  · obtain ⟨_, a1, h1, rfl⟩ := keep_some hu'
    obtain ⟨h2, h3⟩ := List.mem_filter.1 ht
    exact List.mem_filter.2 ⟨h.tr z l a0 h0 u (List.mem_filter.1 hu).1 l' a1 h1 t h2, h3⟩
def dead (f : Int → Option (Bool × List Int)) (n : Int) (z : Int) : Option (Bool × List Int) := if z = n then (f z).map fun p => (false, p.2) else f z
theorem dead_some {f : Int → Option (Bool × List Int)} {n z : Int} {l : Bool} {a : List Int} (h : dead f n z = some (l, a)) : ∃ l0, f z = some (l0, a) := by
  unfold dead at h
  split at h
  · cases hf : f z with
    | none => rw [hf] at h; cases h
    | some p => rw [hf] at h; simp at h; exact ⟨p.1, by rw [← h.2]⟩
  · exact ⟨l, h⟩
theorem dead_iss (f : Int → Option (Bool × List Int)) (n z : Int) : (dead f n z).isSome = (f z).isSome := by
  unfold dead; split
  · cases f z <;> rfl
  · rfl
theorem GF.dead {f : Int → Option (Bool × List Int)} (h : GF f) (n : Int) : GF (dead f n) := by
  refine ⟨fun z l a hz => ?_, fun z l a hz => ?_, fun z l a hz => ?_, fun z l a hz u hu => ?_, fun z l a hz u hu l' a' hu' t ht => ?_⟩
  all_goals obtain ⟨l0, h0⟩ := dead_some hz
  · exact h.asc z l0 a h0
  · exact h.self z l0 a h0
  · exact h.le z l0 a h0
  · rw [dead_iss]; exact h.pre z l0 a h0 u hu
  · obtain ⟨l1, h1⟩ := dead_some hu'
    exact h.tr z l0 a h0 u hu l1 a' h1 t ht
def RelP (xs : List VN) (n : Int) (xs2 : List VN) : Prop := ∃ (xs1 : List VN) (N : Int → Bool), (∀ z, vw xs1 z = dead (vw xs) n z) ∧ (∀ z, N z = true ↔ needG xs1 z) ∧ ∀ z, vw xs2 z = keep N (vw xs1) z
end Go.V
namespace Go.V
open Go Go.RowKit
def okPs (ps : List Int) : Prop := ps.length ≤ 2 ∧ ∀ x y, ps = [x, y] → x ≠ y
instance (ps : List Int) : Decidable (okPs ps) := match ps with
  | [] => isTrue ⟨by simp, fun _ _ h => by cases h⟩
  | [_] => isTrue ⟨by simp, fun _ _ h => by cases h⟩
  | [x, y] => if h : x = y then isFalse (fun k => k.2 x y rfl h) else isTrue ⟨by simp, fun _ _ e => by cases e; exact h⟩
  | _ :: _ :: _ :: _ => isFalse (fun k => by have := k.1; simp at this)
structure GI (xs : List VN) (q : Nat) (cap last : Int) : Prop where
  ok : GOk xs q
  le : ∀ x ∈ xs, x.n ≤ last
  la : 0 ≤ last
  cp : 1 ≤ cap ∧ cap ≤ 4096
def addE (xs : List VN) (cap : Int) (ps : List Int) : Int :=
  if ¬ okPs ps then 1 else if ¬ (∀ z ∈ ps, liveG xs z = true) then 4 else if cap ≤ xs.length then 2 else 0
def AddP (xs : List VN) (cap last : Int) (ps : List Int) (xs2 : List VN) (last2 : Int) : Prop :=
  (addE xs cap ps ≠ 0 ∧ xs2 = xs ∧ last2 = last) ∨ (addE xs cap ps = 0 ∧ last2 = last + 1 ∧ ∃ vn : VN, xs2 = xs ++ [vn] ∧ vn.n = last + 1 ∧ vn.live = true ∧ Asc vn.ab ∧ ∀ z, z ∈ vn.ab ↔ z ∈ newAb xs (last + 1) ps)
def relE (xs : List VN) (n : Int) : Int := if liveG xs n = true then 0 else 4
def RelQ (xs : List VN) (n : Int) (xs2 : List VN) : Prop := (liveG xs n = true ∧ RelP xs n xs2) ∨ (liveG xs n = false ∧ xs2 = xs)
theorem vw_app {xs : List VN} {v : VN} (hn : ∀ x ∈ xs, x.n ≠ v.n) (z : Int) : vw (xs ++ [v]) z = if z = v.n then some (v.live, v.ab) else vw xs z := by
  unfold vw
  rw [vfind_app hn]
  split <;> rfl
theorem RelP.le {xs xs2 : List VN} {n last : Int} (hu : VUq xs2) (h : RelP xs n xs2) (hl : ∀ x ∈ xs, x.n ≤ last) : ∀ x ∈ xs2, x.n ≤ last := fun x hx => by
  obtain ⟨xs1, N, h1, _, h3⟩ := h
  have h4 := vw_mem hu hx
  rw [h3] at h4
  obtain ⟨_, a0, h5, _⟩ := keep_some h4
  rw [h1] at h5
  obtain ⟨l0, h6⟩ := dead_some h5
  obtain ⟨y, hy, _, _⟩ := vw_some h6
  obtain ⟨h7, h8⟩ := vfind_some hy
  rw [← h8]; exact hl y h7
theorem AddP.vw {xs xs2 : List VN} {cap last last2 : Int} {ps : List Int} (h : AddP xs cap last ps xs2 last2) (hl : ∀ x ∈ xs, x.n ≤ last) (h0 : addE xs cap ps = 0) : last2 = last + 1 ∧ xs2.length = xs.length + 1 ∧ ∃ ab, Asc ab ∧ (∀ z, z ∈ ab ↔ z ∈ newAb xs (last + 1) ps) ∧ ∀ z, Go.V.vw xs2 z = if z = last + 1 then some (true, ab) else Go.V.vw xs z := by
  rcases h with ⟨h, _⟩ | ⟨_, h2, v, rfl, h4, h5, h6, h7⟩
  · exact absurd h0 h
  · refine ⟨h2, by simp, v.ab, h6, h7, fun z => ?_⟩
    rw [vw_app (fun x hx e => by have := hl x hx; omega), h4, h5]
theorem AddP.bnd {xs xs2 : List VN} {cap last last2 : Int} {ps : List Int} (h : AddP xs cap last ps xs2 last2) : last ≤ last2 ∧ last2 ≤ last + 1 := by
  rcases h with ⟨_, _, h⟩ | ⟨_, h, _⟩ <;> omega
end Go.V
namespace Go.V
open Go Go.RowKit
def KO (xs : List VN) : Prop := ∀ z, preG xs z = true → needG xs z
theorem KO.nil : KO [] := fun z h => by cases h
theorem baseG_pos {xs : List VN} {x y : Int} (hx : liveG xs x = true) (hy : liveG xs y = true) : baseG xs x y = gcm (abG xs x) (abG xs y) := by rw [baseG, if_pos ⟨hx, hy⟩]
theorem KO.add {xs xs2 : List VN} {cap last last2 : Int} {ps : List Int} (h : KO xs) (hl : ∀ x ∈ xs, x.n ≤ last) (ha : AddP xs cap last ps xs2 last2) : KO xs2 := by
  by_cases h0 : addE xs cap ps = 0
  · obtain ⟨_, _, ab, _, _, hv⟩ := ha.vw hl h0
    have hlt : ∀ z, preG xs z = true → z ≤ last := fun z hz => by
      obtain ⟨x, hx, e⟩ := pre_iff.1 hz
      rw [← e]; exact hl x hx
    have hlv : ∀ z, z ≠ last + 1 → liveG xs2 z = liveG xs z ∧ abG xs2 z = abG xs z := fun z hz => by rw [live_vw, live_vw, ab_vw, ab_vw, hv, if_neg hz]; exact ⟨rfl, rfl⟩
    intro z hz
    by_cases hn : z = last + 1
    · subst hn; exact .inl (by rw [live_vw, hv, if_pos rfl]; rfl)
    · have hz1 : preG xs z = true := by rw [pre_vw, hv, if_neg hn, ← pre_vw] at hz; exact hz
      rcases h z hz1 with h1 | ⟨h1, x, y, hx, hy, hxy, he⟩
      · exact .inl (by rw [(hlv z hn).1]; exact h1)
      · have nx : x ≠ last + 1 := by have := hlt x (live_pre hx); omega
        have ny : y ≠ last + 1 := by have := hlt y (live_pre hy); omega
        have lx : liveG xs2 x = true := by rw [(hlv x nx).1]; exact hx
        have ly : liveG xs2 y = true := by rw [(hlv y ny).1]; exact hy
        refine .inr ⟨h1, x, y, lx, ly, hxy, ?_⟩
        rw [baseG_pos lx ly, (hlv x nx).2, (hlv y ny).2, ← baseG_pos hx hy]; exact he
  · rcases ha with ⟨_, rfl, _⟩ | ⟨h2, _⟩
    · exact h
    · exact absurd h2 h0
theorem keep_base {xs1 xs2 : List VN} {N : Int → Bool} (hG : GF (vw xs1)) (hpos : ∀ z, (vw xs1 z).isSome = true → 1 ≤ z) (hN : ∀ z, N z = true ↔ needG xs1 z) (hv : ∀ z, vw xs2 z = keep N (vw xs1) z) :
    (∀ z, liveG xs2 z = liveG xs1 z) ∧ (∀ z, N z = true → abG xs2 z = (abG xs1 z).filter N) ∧ ∀ x y, x < y → liveG xs1 x = true → liveG xs1 y = true → baseG xs2 x y = baseG xs1 x y := by
  have hlv : ∀ z, liveG xs2 z = liveG xs1 z := fun z => by
    cases hN1 : N z with
    | true => rw [live_vw, live_vw, hv, keep, if_pos hN1]; cases vw xs1 z <;> rfl
    | false =>
      have h1 : liveG xs1 z = false := by
        cases hl : liveG xs1 z with
        | false => rfl
        | true => rw [(hN z).2 (.inl hl)] at hN1; cases hN1
      rw [h1, live_vw, hv, keep, if_neg (by rw [hN1]; decide)]; rfl
  have hab : ∀ z, N z = true → abG xs2 z = (abG xs1 z).filter N := fun z h => by
    rw [ab_vw, ab_vw, hv, keep, if_pos h]
    cases vw xs1 z <;> rfl
  refine ⟨hlv, hab, fun x y hxy hx hy => ?_⟩
  have nx := (hN x).2 (.inl hx)
  have ny := (hN y).2 (.inl hy)
  have ax : Asc (abG xs1 x) := by
    rw [ab_vw]
    cases hf : vw xs1 x with
    | none => exact List.Pairwise.nil
    | some p => exact hG.asc x p.1 p.2 hf
  rw [baseG_pos (by rw [hlv]; exact hx) (by rw [hlv]; exact hy), baseG_pos hx hy, hab x nx, hab y ny]
  rcases gcm_cases (l := abG xs1 x) (m := abG xs1 y) ax with ⟨h1, h2⟩ | ⟨h1, h2, h3⟩
  · rw [h1]
    exact gcm_no fun z hz hz2 => h2 z (List.mem_filter.1 hz).1 (List.mem_filter.1 hz2).1
  · have hp : 0 < gcm (abG xs1 x) (abG xs1 y) ∨ ¬ 0 < gcm (abG xs1 x) (abG xs1 y) := by omega
    have hNb : N (gcm (abG xs1 x) (abG xs1 y)) = true ∨ gcm (abG xs1 x) (abG xs1 y) ≤ 0 := by
      rcases hp with hp | hp
      · exact .inl ((hN _).2 (.inr ⟨hp, x, y, hx, hy, hxy, by rw [baseG_pos hx hy]⟩))
      · exact .inr (by omega)
    rcases hNb with hNb | hNb
    · exact gcm_is (ax.sublist List.filter_sublist) (List.mem_filter.2 ⟨h1, hNb⟩) (List.mem_filter.2 ⟨h2, hNb⟩) fun z hz hz2 => h3 z (List.mem_filter.1 hz).1 (List.mem_filter.1 hz2).1
    · exfalso
      generalize gcm (abG xs1 x) (abG xs1 y) = b at *
      rw [ab_vw] at h1
      cases hf : vw xs1 x with
      | none => rw [hf] at h1; cases h1
      | some p =>
        rw [hf] at h1
        have h5 := hpos _ (hG.pre x p.1 p.2 hf _ h1)
        omega
theorem GOk.pos {xs : List VN} {q : Nat} (h : GOk xs q) (z : Int) (hz : (vw xs z).isSome = true) : 1 ≤ z := by
  rw [← pre_vw] at hz
  obtain ⟨x, hx, e⟩ := pre_iff.1 hz
  rw [← e]; exact (h.rng x hx).1
theorem RelP.facts {xs xs2 : List VN} {q : Nat} {n : Int} (hG : GOk xs q) (h : RelP xs n xs2) : (∀ z, liveG xs2 z = (liveG xs z && decide (z ≠ n))) ∧ (∀ z, preG xs2 z = true → preG xs z = true) ∧ KO xs2 := by
  obtain ⟨xs1, N, h1, h2, h3⟩ := h
  have hG1 : GF (vw xs1) := by rw [show vw xs1 = dead (vw xs) n from funext h1]; exact hG.gf.dead n
  have hpos : ∀ z, (vw xs1 z).isSome = true → 1 ≤ z := fun z hz => by rw [h1, dead_iss] at hz; exact hG.pos z hz
  obtain ⟨k1, k2, k3⟩ := keep_base hG1 hpos h2 h3
  have hlive : ∀ z, liveG xs1 z = (liveG xs z && decide (z ≠ n)) := fun z => by
    rw [live_vw, live_vw, h1, dead]
    by_cases hz : z = n
    · rw [if_pos hz, decide_eq_false (fun h => h hz), Bool.and_false]
      cases vw xs z <;> rfl
    · rw [if_neg hz, decide_eq_true hz, Bool.and_true]
  refine ⟨fun z => by rw [k1, hlive], fun z hz => ?_, fun z hz => ?_⟩
  · rw [pre_vw, h3] at hz
    rw [pre_vw]
    unfold keep at hz
    split at hz
    · cases hf : vw xs1 z with
      | none => rw [hf] at hz; cases hz
      | some p =>
        rw [← dead_iss (vw xs) n, ← h1, hf]; rfl
    · cases hz
  · rw [pre_vw, h3] at hz
    unfold keep at hz
    split at hz
    · rename_i hN
      rcases (h2 z).1 hN with h | ⟨h, x, y, hx, hy, hxy, he⟩
      · exact .inl (by rw [k1]; exact h)
      · exact .inr ⟨h, x, y, by rw [k1]; exact hx, by rw [k1]; exact hy, hxy, by rw [k3 x y hxy hx hy]; exact he⟩
    · cases hz
theorem KO.rel {xs xs2 : List VN} {q : Nat} {n : Int} (h : KO xs) (hG : GOk xs q) (hR : RelQ xs n xs2) : KO xs2 := by
  rcases hR with ⟨_, hR⟩ | ⟨_, rfl⟩
  · exact (hR.facts hG).2.2
  · exact h
theorem AddP.facts {xs xs2 : List VN} {cap last last2 : Int} {ps : List Int} (hl : ∀ x ∈ xs, x.n ≤ last) (ha : AddP xs cap last ps xs2 last2) : (addE xs cap ps ≠ 0 ∧ xs2 = xs ∧ last2 = last) ∨ (addE xs cap ps = 0 ∧ last2 = last + 1 ∧ preG xs (last + 1) = false ∧ (∀ z, liveG xs2 z = (liveG xs z || decide (z = last + 1))) ∧ (∀ z, preG xs2 z = (preG xs z || decide (z = last + 1))) ∧ xs2.length = xs.length + 1) := by
  by_cases h0 : addE xs cap ps = 0
  · obtain ⟨h1, h2, ab, _, _, hv⟩ := ha.vw hl h0
    have hn : preG xs (last + 1) = false := by
      cases hp : preG xs (last + 1) with
      | false => rfl
      | true =>
        obtain ⟨x, hx, e⟩ := pre_iff.1 hp
        have := hl x hx; omega
    refine .inr ⟨h0, h1, hn, fun z => ?_, fun z => ?_, h2⟩
    · rw [live_vw, live_vw, hv]
      by_cases hz : z = last + 1
      · rw [if_pos hz, decide_eq_true hz, Bool.or_true]; rfl
      · rw [if_neg hz, decide_eq_false hz, Bool.or_false]
    · rw [pre_vw, pre_vw, hv]
      by_cases hz : z = last + 1
      · rw [if_pos hz, decide_eq_true hz, Bool.or_true]; rfl
      · rw [if_neg hz, decide_eq_false hz, Bool.or_false]
  · rcases ha with h | ⟨h2, _⟩
    · exact .inl h
    · exact absurd h2 h0
theorem RelQ.live {xs xs2 : List VN} {q : Nat} {n : Int} (hG : GOk xs q) (h : RelQ xs n xs2) {z : Int} (hz : liveG xs2 z = true) : liveG xs z = true ∧ z ≠ n := by
  rcases h with ⟨_, h⟩ | ⟨h, rfl⟩
  · rw [(h.facts hG).1 z] at hz
    simp only [Bool.and_eq_true, decide_eq_true_eq] at hz
    exact hz
  · exact ⟨hz, fun e => by rw [e, h] at hz; cases hz⟩
theorem RelQ.same {xs xs2 : List VN} {n : Int} (h : RelQ xs n xs2) (hl : liveG xs n = false) : xs2 = xs := by
  rcases h with ⟨h, _⟩ | ⟨_, h⟩
  · rw [hl] at h; cases h
  · exact h
theorem relE_yes {xs : List VN} {n : Int} (h : relE xs n = 0) : liveG xs n = true := by
  unfold relE at h
  split at h
  · assumption
  · omega
def Gon (xs : List VN) (la : Int) (gn : List Int) : Prop := ∀ v ∈ gn, liveG xs v = false ∧ v ≤ la
theorem Gon.rel {xs xs2 : List VN} {q : Nat} {n la : Int} {gn : List Int} (h : Gon xs la gn) (hG : GOk xs q) (hR : RelQ xs n xs2) : Gon xs2 la gn := fun v hv => by
  refine ⟨?_, (h v hv).2⟩
  cases hl : liveG xs2 v with
  | false => rfl
  | true => have := (hR.live hG hl).1; rw [(h v hv).1] at this; cases this
theorem Gon.snoc {xs xs2 : List VN} {q : Nat} {n cap la : Int} {gn : List Int} (h : Gon xs la gn) (hI : GI xs q cap la) (hR : RelQ xs n xs2) (h0 : relE xs n = 0) : Gon xs2 la (gn ++ [n]) := fun v hv => by
  rcases List.mem_append.1 hv with hv | hv
  · exact h.rel hI.ok hR v hv
  · rw [List.mem_singleton.1 hv]
    refine ⟨?_, ?_⟩
    · cases hl : liveG xs2 n with
      | false => rfl
      | true => exact absurd rfl (hR.live hI.ok hl).2
    · obtain ⟨x, hx, e⟩ := pre_iff.1 (live_pre (relE_yes h0))
      rw [← e]; exact hI.le x hx
theorem Gon.add {xs xs2 : List VN} {q : Nat} {cap la la2 : Int} {ps gn : List Int} (h : Gon xs la gn) (hI : GI xs q cap la) (hA : AddP xs cap la ps xs2 la2) : Gon xs2 la2 gn := by
  rcases hA.facts hI.le with ⟨_, rfl, rfl⟩ | ⟨_, rfl, _, h4, _⟩
  · exact h
  · intro v hv
    obtain ⟨h5, h6⟩ := h v hv
    refine ⟨?_, by omega⟩
    rw [h4, h5, decide_eq_false (by omega)]; rfl
structure Cg where
  rel : Bool
  ver : Int
  ps : List Int
  a : Option Addr
  c : Nat
def cgC (z : Cg) : List Value := [.bool z.rel, .int .i64 z.ver, .slice z.a (i64s z.ps).length z.c]
def enG (l : List Cg) : List (List Value) := l.map cgC
@[simp] theorem enG_len (l : List Cg) : (enG l).length = l.length := by simp [enG]
abbrev Ir (n : Int) : Prop := -9223372036854775808 ≤ n ∧ n ≤ 9223372036854775807
structure CgOk (z : Cg) : Prop where
  ver : Ir z.ver
  ps : ∀ x ∈ z.ps, Ir x
end Go.V
namespace Go.V
open Go Go.RowKit Go.Maps Go.Sort
structure KOk {α : Type} (f : α → Value × Value × Nat) (n : α → Int) (xs : List α) (q : Nat) : Prop where
  key : ∀ x ∈ xs, (f x).1 = .int .i64 (n x)
  uniq : xs.Pairwise fun x y => n x ≠ n y
  born : ∀ x ∈ xs, (f x).2.2 < q
  bnd : (xs.map fun x => (f x).2.2).Nodup
  rng : ∀ x ∈ xs, -9223372036854775808 ≤ n x ∧ n x ≤ 9223372036854775807
  num : xs.length ≤ 4096
section
variable {P : Program} {k : TypeId} {α : Type} {f : α → Value × Value × Nat} {n : α → Int}
theorem keys_of (xs : List α) (q : Nat) (h : KOk f n xs q) (hk : P.underlying k = some (.int .i64)) {w : World} {b : Nat} (hb : w.heap[b]? = some (.map (mE (xs.map f)) q)) :
    ∃ D : DataW Unit, w.ownsMap P k noRdI b 4096 D ∧ Maps.size D = xs.length ∧ (intKeys D).Perm (xs.map n) := by
  have hrd : ∀ x : α, x ∈ xs → Go.WideElems.rd P k noRdI ⟨(f x).1, (f x).2.1, (f x).2.2⟩ = some (.int .i64 (n x), .nil) := fun x hx => by
    have h1 := h.rng x hx
    have h2 : (Lit.int .i64 (n x)).wf = true := by
      have e1 : IntKind.i64.min = -9223372036854775808 := by decide
      have e2 : IntKind.i64.max = 9223372036854775807 := by decide
      simp only [Lit.wf, e1, e2, Bool.and_eq_true, decide_eq_true_eq]
      omega
    have h3 : keyOf P k (.int .i64 (n x)) = some (.int .i64 (n x)) := by simp [keyOf, hk, mapKey, h2]
    simp [Go.WideElems.rd, h.key x hx, h3, noRdI]
  have hF : Go.WideElems.Fit P k noRdI (mE (xs.map f)) q := by
    refine ⟨by rw [mE_size, List.length_map]; exact Nat.le_trans h.num (by decide), ⟨?_, ?_, ?_⟩, ?_⟩
    · intro x hx
      simp only [mE_toList, List.map_map, List.mem_map] at hx
      obtain ⟨y, hy, rfl⟩ := hx
      exact h.born y hy
    · rw [mE_toList, List.map_map, List.map_map]
      exact h.bnd
    · rw [mE_toList, List.map_map, List.map_map]
      refine List.pairwise_map.2 (List.Pairwise.imp_of_mem (R := fun x y => n x ≠ n y) (fun {a b} ha hb' hne he => hne ?_) h.uniq)
      simp only [Function.comp_def, h.key a ha, h.key b hb'] at he
      exact (Value.int.inj he).2
    · intro x hx
      simp only [mE_toList, List.map_map, List.mem_map] at hx
      obtain ⟨y, hy, rfl⟩ := hx
      exact ⟨_, hrd y hy⟩
  refine ⟨_, ⟨_, _, hb, hF, by rw [mE_size, List.length_map]; exact h.num, rfl⟩, ?_, ?_⟩
  · rw [Maps.size_eq, (WideShapes.sorted_perm _).length_eq]; simp
  · refine ((WideShapes.sorted_perm _).map _).trans ?_
    rw [mE_toList, List.map_map, List.map_map, List.map_map]
    refine List.Perm.of_eq (List.map_congr_left fun x hx => ?_)
    simp only [Function.comp_def, Go.WideElems.rg, hrd x hx, Option.getD_some, intOf]
theorem ki_key {xs : List α} (h : ∀ x ∈ xs, (f x).1 = .int .i64 (n x)) : ∀ x ∈ xs.map f, MapKept.IsKey (.int .i64) x.1 := fun x hx => by
  obtain ⟨y, hy, rfl⟩ := List.mem_map.1 hx
  rw [h y hy]; rfl
theorem ki_in {xs : List α} (h1 : ∀ x ∈ xs, (f x).1 = .int .i64 (n x)) (hu : xs.Pairwise fun x y => n x ≠ n y) {k : Nat} {x : α} (hx : xs[k]? = some x) : mfind (.int .i64) (.int .i64 (n x)) (xs.map f) = some (some (k, (f x).2.1)) := by
  refine mfind_some (d := .int .i64) (k := .int .i64 (n x)) (b := (f x).2.2) rfl (ki_key h1) (by rw [List.getElem?_map, hx]; show some (f x) = _; rw [← h1 x (List.mem_of_getElem? hx)]) fun j hj y hy => ?_
  rw [List.getElem?_map] at hy
  cases hz : xs[j]? with
  | none => rw [hz] at hy; cases hy
  | some u =>
    rw [hz] at hy
    simp only [Option.map_some, Option.some.injEq] at hy
    subst hy
    intro he
    rw [h1 u (List.mem_of_getElem? hz)] at he
    have he2 : n u = n x := (Value.int.inj he).2
    have hl := (List.getElem?_eq_some_iff.1 hz).1
    have hl2 := (List.getElem?_eq_some_iff.1 hx).1
    refine List.pairwise_iff_getElem.1 hu j k hl hl2 hj ?_
    rw [(List.getElem?_eq_some_iff.1 hz).2, (List.getElem?_eq_some_iff.1 hx).2, he2]
theorem ki_out {xs : List α} (h1 : ∀ x ∈ xs, (f x).1 = .int .i64 (n x)) {m : Int} (h : ∀ x ∈ xs, n x ≠ m) : mfind (.int .i64) (.int .i64 m) (xs.map f) = some none := by
  refine mfind_none (d := .int .i64) (k := .int .i64 m) rfl (ki_key h1) fun x hx => ?_
  obtain ⟨y, hy, rfl⟩ := List.mem_map.1 hx
  rw [h1 y hy]
  intro he
  exact h y hy (Value.int.inj he).2
theorem ki_cases (n : α → Int) (xs : List α) (m : Int) : (∃ (k : Nat) (x : α), xs[k]? = some x ∧ n x = m) ∨ ∀ x ∈ xs, n x ≠ m := by
  by_cases h : ∃ x ∈ xs, n x = m
  · obtain ⟨x, hx, hn⟩ := h
    obtain ⟨k, hk⟩ := List.mem_iff_getElem?.1 hx
    exact .inl ⟨k, x, hk, hn⟩
  · exact .inr fun x hx hn => h ⟨x, hx, hn⟩
theorem KOk.nil : KOk f n [] 0 := ⟨fun _ h => (by cases h), List.Pairwise.nil, fun _ h => (by cases h), List.nodup_nil, fun _ h => (by cases h), by simp⟩
theorem KOk.snoc {xs : List α} {q : Nat} (h : KOk f n xs q) {x : α} (hk : (f x).1 = .int .i64 (n x)) (hn : ∀ y ∈ xs, n y ≠ n x) (hb : (f x).2.2 = q) (hr : -9223372036854775808 ≤ n x ∧ n x ≤ 9223372036854775807) (hl : xs.length < 4096) : KOk f n (xs ++ [x]) (q + 1) := by
  refine ⟨fun y hy => ?_, ?_, fun y hy => ?_, ?_, fun y hy => ?_, by simp; omega⟩
  · rcases List.mem_append.1 hy with hy | hy
    · exact h.key y hy
    · rw [List.mem_singleton.1 hy]; exact hk
  · refine List.pairwise_append.2 ⟨h.uniq, List.pairwise_singleton _ _, fun a ha b hb' => ?_⟩
    rw [List.mem_singleton.1 hb']; exact hn a ha
  · rcases List.mem_append.1 hy with hy | hy
    · exact Nat.lt_succ_of_lt (h.born y hy)
    · rw [List.mem_singleton.1 hy, hb]; exact Nat.lt_succ_self _
  · rw [List.map_append]
    refine List.nodup_append.2 ⟨h.bnd, List.pairwise_singleton _ _, fun a ha b hb' e => ?_⟩
    rw [List.map_singleton, List.mem_singleton] at hb'
    obtain ⟨y, hy, rfl⟩ := List.mem_map.1 ha
    have := h.born y hy
    rw [e, hb', hb] at this; omega
  · rcases List.mem_append.1 hy with hy | hy
    · exact h.rng y hy
    · rw [List.mem_singleton.1 hy]; exact hr
theorem KOk.erase {xs : List α} {q : Nat} (h : KOk f n xs q) (j : Nat) : KOk f n (xs.eraseIdx j) q := by
  have hs := List.eraseIdx_sublist xs j
  exact ⟨fun y hy => h.key y (hs.subset hy), h.uniq.sublist hs, fun y hy => h.born y (hs.subset hy), h.bnd.sublist (hs.map _), fun y hy => h.rng y (hs.subset hy), Nat.le_trans hs.length_le h.num⟩
end
end Go.V
/-! ## Wm -/
namespace Go.V
open Go Go.RowKit Go.Maps Go.Sort
structure WE where
  k : Int
  p : Bool
  v : Int
  b : Nat
def wK (x : WE) : Value × Value × Nat := (.int .i64 x.k, .agg #[.bool x.p, .int .i64 x.v], x.b)
abbrev Wrs := List (Int × Bool × Int)
def wT (x : WE) : Int × Bool × Int := (x.k, x.p, x.v)
def wSrt (M : Wrs) : Prop := M.Pairwise fun a b => a.1 < b.1
def wget (k : Int) (M : Wrs) : Option (Bool × Int) := (M.find? fun x => decide (x.1 = k)).map (·.2)
def wput (k : Int) (y : Bool × Int) (M : Wrs) : Wrs := M.filter (fun x => decide (x.1 < k)) ++ (k, y) :: M.filter (fun x => decide (k < x.1))
theorem wput_srt {k : Int} {y : Bool × Int} {M : Wrs} (h : wSrt M) : wSrt (wput k y M) := by
  unfold wput
  refine List.pairwise_append.2 ⟨h.sublist List.filter_sublist, List.pairwise_cons.2 ⟨fun y hy => ?_, h.sublist List.filter_sublist⟩, fun x hx y hy => ?_⟩
  · exact of_decide_eq_true (List.mem_filter.1 hy).2
  · have h1 := of_decide_eq_true (List.mem_filter.1 hx).2
    rcases List.mem_cons.1 hy with rfl | hy
    · exact h1
    · have h2 := of_decide_eq_true (List.mem_filter.1 hy).2
      omega
theorem wput_mem {k : Int} {y : Bool × Int} {M : Wrs} (x : Int × Bool × Int) : x ∈ wput k y M ↔ x = (k, y) ∨ (x ∈ M ∧ x.1 ≠ k) := by
  unfold wput
  rw [List.mem_append, List.mem_cons, List.mem_filter, List.mem_filter, decide_eq_true_iff, decide_eq_true_iff]
  constructor
  · rintro (⟨h1, h2⟩ | h | ⟨h1, h2⟩)
    · exact .inr ⟨h1, by omega⟩
    · exact .inl h
    · exact .inr ⟨h1, by omega⟩
  · rintro (h | ⟨h1, h2⟩)
    · exact .inr (.inl h)
    · by_cases h3 : x.1 < k
      · exact .inl ⟨h1, h3⟩
      · exact .inr (.inr ⟨h1, by omega⟩)
theorem wSrt.nodup {M : Wrs} (h : wSrt M) : M.Nodup := h.imp fun {a b} h e => by rw [e] at h; omega
theorem wget_some {k : Int} {M : Wrs} (hs : wSrt M) {y : Bool × Int} : wget k M = some y ↔ (k, y) ∈ M := by
  unfold wget
  constructor
  · intro h
    cases hf : M.find? fun x => decide (x.1 = k) with
    | none => rw [hf] at h; cases h
    | some z =>
      rw [hf] at h
      have h1 : z.1 = k := of_decide_eq_true (List.find?_some (p := fun x : Int × Bool × Int => decide (x.1 = k)) hf)
      simp only [Option.map_some, Option.some.injEq] at h
      have h2 := List.mem_of_find?_eq_some hf
      rw [← h1, ← h]; exact h2
  · intro h
    induction M with
    | nil => cases h
    | cons x t ih =>
      obtain ⟨h1, h2⟩ := List.pairwise_cons.1 hs
      rw [List.find?_cons]
      rcases List.mem_cons.1 h with rfl | h
      · simp
      · have h3 : x.1 < k := h1 _ h
        rw [decide_eq_false (show ¬ x.1 = k by omega)]
        exact ih h2 h
theorem wget_none {k : Int} {M : Wrs} (h : ∀ x ∈ M, x.1 ≠ k) : wget k M = none := by
  unfold wget
  rw [List.find?_eq_none.2 fun x hx e => h x hx (of_decide_eq_true e)]; rfl
structure WOk (xs : List WE) (q : Nat) (M : Wrs) : Prop where
  k : KOk wK WE.k xs q
  perm : (xs.map wT).Perm M
  srt : wSrt M
theorem WOk.nil : WOk [] 0 [] := ⟨KOk.nil, List.Perm.refl _, List.Pairwise.nil⟩
section
variable {xs : List WE} {q : Nat} {M : Wrs}
theorem WOk.len (h : WOk xs q M) : xs.length = M.length := by rw [← h.perm.length_eq, List.length_map]
theorem WOk.mem (h : WOk xs q M) (x : Int × Bool × Int) : x ∈ M ↔ ∃ y ∈ xs, wT y = x := by rw [← h.perm.mem_iff, List.mem_map]
theorem WOk.get (h : WOk xs q M) {j : Nat} {x : WE} (hx : xs[j]? = some x) : wget x.k M = some (x.p, x.v) :=
  (wget_some h.srt).2 ((h.mem _).2 ⟨x, List.mem_of_getElem? hx, rfl⟩)
theorem WOk.no (h : WOk xs q M) {k : Int} (hx : ∀ x ∈ xs, x.k ≠ k) : wget k M = none :=
  wget_none fun x hm => by
    obtain ⟨y, hy, rfl⟩ := (h.mem x).1 hm
    exact hx y hy
theorem KOk.set {α : Type} {f : α → Value × Value × Nat} {n : α → Int} {l : List α} {q : Nat} (h : KOk f n l q) {j : Nat} {x y : α} (hx : l[j]? = some x) (h1 : n y = n x) (h2 : (f y).1 = (f x).1) (h3 : (f y).2.2 = (f x).2.2) : KOk f n (l.set j y) q := by
  have hj := (List.getElem?_eq_some_iff.1 hx).1
  have hxe := (List.getElem?_eq_some_iff.1 hx).2
  have hm : ∀ {β : Type} (g : α → β), g y = g x → (l.set j y).map g = l.map g := fun g hg => by
    apply List.ext_getElem?
    intro i
    rw [List.getElem?_map, List.getElem?_map, List.getElem?_set]
    split
    · rename_i hij; subst hij
      rw [hx]; simp [hg]
    · rfl
  have hxm := List.mem_of_getElem? hx
  refine ⟨fun z hz => ?_, ?_, fun z hz => ?_, ?_, fun z hz => ?_, by rw [List.length_set]; exact h.num⟩
  · rcases List.mem_or_eq_of_mem_set hz with hz | rfl
    · exact h.key z hz
    · rw [h2, h1]; exact h.key x hxm
  · have := List.pairwise_map.2 h.uniq
    rw [← hm n h1] at this
    exact List.pairwise_map.1 this
  · rcases List.mem_or_eq_of_mem_set hz with hz | rfl
    · exact h.born z hz
    · rw [h3]; exact h.born x hxm
  · rw [hm (fun x => (f x).2.2) h3]; exact h.bnd
  · rcases List.mem_or_eq_of_mem_set hz with hz | rfl
    · exact h.rng z hz
    · rw [h1]; exact h.rng x hxm
theorem WOk.ofMem {xs' : List WE} {q' : Nat} {M' : Wrs} (hk : KOk wK WE.k xs' q') (hs : wSrt M') (hm : ∀ x, (∃ y ∈ xs', wT y = x) ↔ x ∈ M') : WOk xs' q' M' := by
  refine ⟨hk, ?_, hs⟩
  have hn : (xs'.map wT).Nodup := List.pairwise_map.2 (hk.uniq.imp fun {a b} h e => h (congrArg Prod.fst e))
  exact (List.perm_ext_iff_of_nodup hn hs.nodup).2 fun x => by rw [List.mem_map]; exact hm x
theorem WOk.set (h : WOk xs q M) {j : Nat} {x : WE} (hx : xs[j]? = some x) (p : Bool) (v : Int) : WOk (xs.set j ⟨x.k, p, v, x.b⟩) q (wput x.k (p, v) M) := by
  refine WOk.ofMem (h.k.set hx rfl rfl rfl) (wput_srt h.srt) fun z => ?_
  rw [wput_mem, h.mem]
  have hj := (List.getElem?_eq_some_iff.1 hx).1
  constructor
  · rintro ⟨y, hy, rfl⟩
    obtain ⟨i, hi⟩ := List.mem_iff_getElem?.1 hy
    rw [List.getElem?_set] at hi
    split at hi
    · rw [← Option.some.inj hi]; exact .inl rfl
    · rename_i hij
      have hil := (List.getElem?_eq_some_iff.1 hi).1
      refine .inr ⟨⟨y, List.mem_of_getElem? hi, rfl⟩, fun e => ?_⟩
      have hu := List.pairwise_iff_getElem.1 h.k.uniq
      have e1 := (List.getElem?_eq_some_iff.1 hi).2
      have e2 := (List.getElem?_eq_some_iff.1 hx).2
      have he : y.k = x.k := e
      rcases Nat.lt_or_gt_of_ne hij with hlt | hgt
      · exact hu j i hj hil hlt (by rw [e1, e2]; exact he.symm)
      · exact hu i j hil hj hgt (by rw [e1, e2]; exact he)
  · rintro (rfl | ⟨⟨y, hy, rfl⟩, hn⟩)
    · exact ⟨⟨x.k, p, v, x.b⟩, List.mem_iff_getElem?.2 ⟨j, by rw [List.getElem?_set, if_pos rfl]; simp [hj]⟩, rfl⟩
    · obtain ⟨i, hi⟩ := List.mem_iff_getElem?.1 hy
      refine ⟨y, List.mem_iff_getElem?.2 ⟨i, ?_⟩, rfl⟩
      rw [List.getElem?_set, if_neg (fun e => ?_), hi]
      subst e
      rw [hx] at hi
      have := Option.some.inj hi
      subst this
      exact hn rfl
theorem WOk.snoc (h : WOk xs q M) {k : Int} (hn : ∀ x ∈ xs, x.k ≠ k) (hr : -9223372036854775808 ≤ k ∧ k ≤ 9223372036854775807) (hl : xs.length < 4096) (p : Bool) (v : Int) : WOk (xs ++ [⟨k, p, v, q⟩]) (q + 1) (wput k (p, v) M) := by
  refine WOk.ofMem (h.k.snoc rfl hn rfl hr hl) (wput_srt h.srt) fun z => ?_
  rw [wput_mem, h.mem]
  constructor
  · rintro ⟨y, hy, rfl⟩
    rcases List.mem_append.1 hy with hy | hy
    · exact .inr ⟨⟨y, hy, rfl⟩, hn y hy⟩
    · rw [List.mem_singleton.1 hy]; exact .inl rfl
  · rintro (rfl | ⟨⟨y, hy, rfl⟩, _⟩)
    · exact ⟨_, List.mem_append_right _ (List.mem_singleton.2 rfl), rfl⟩
    · exact ⟨y, List.mem_append_left _ hy, rfl⟩
theorem WOk.keys (h : WOk xs q M) : (M.map (·.1)).Perm (xs.map WE.k) ∧ (M.map (·.1)).Pairwise (· ≤ ·) := by
  refine ⟨?_, List.pairwise_map.2 (h.srt.imp fun {a b} h => by omega)⟩
  have := (h.perm.map (fun x : Int × Bool × Int => x.1)).symm
  rw [List.map_map] at this
  exact this
end
def wC (x : Int × Bool × Int) : Int × Int × Int × Int := if x.2.1 then (3, x.1, 0, x.2.2) else (2, x.1, 0, 0)
structure RdS where
  lo : Int
  hi : Int
  less : Kvs
  gr : Kvs
def rdStep (s : RdS) (x : Int × Int) : RdS :=
  if x.2 + 1 < s.lo then ⟨s.lo, s.hi, s.less ++ [x], s.gr⟩
  else if s.hi < x.1 - 1 then ⟨s.lo, s.hi, s.less, s.gr ++ [x]⟩
  else ⟨min s.lo x.1, max s.hi x.2, s.less, s.gr⟩
def rdAll (lo hi : Int) (S : Kvs) : RdS := S.foldl rdStep ⟨lo, hi, [], []⟩
def rdF (lo hi : Int) (S : Kvs) : Kvs := let r := rdAll lo hi S; r.less ++ [(r.lo, r.hi)] ++ r.gr
def i64R (z : Int) : Prop := -9223372036854775808 ≤ z ∧ z ≤ 9223372036854775807
def SpR (S : Kvs) : Prop := ∀ s ∈ S, i64R s.1 ∧ i64R s.2
theorem rdAll_snoc {lo hi : Int} {S : Kvs} {k : Nat} {e : Int × Int} (h : S[k]? = some e) : rdAll lo hi (S.take (k + 1)) = rdStep (rdAll lo hi (S.take k)) e := by
  unfold rdAll
  rw [List.take_add_one, h, List.foldl_append]; rfl
theorem rdStep_R {s : RdS} {x : Int × Int} (h : i64R s.lo ∧ i64R s.hi ∧ SpR s.less ∧ SpR s.gr) (hx : i64R x.1 ∧ i64R x.2) : i64R (rdStep s x).lo ∧ i64R (rdStep s x).hi ∧ SpR (rdStep s x).less ∧ SpR (rdStep s x).gr := by
  obtain ⟨h1, h2, h3, h4⟩ := h
  unfold rdStep
  have ha : ∀ {S : Kvs}, SpR S → SpR (S ++ [x]) := fun hS s hs => by
    rcases List.mem_append.1 hs with hs | hs
    · exact hS s hs
    · rw [List.mem_singleton.1 hs]; exact hx
  split
  · exact ⟨h1, h2, ha h3, h4⟩
  · split
    · exact ⟨h1, h2, h3, ha h4⟩
    · refine ⟨?_, ?_, h3, h4⟩
      · show i64R (min _ _); unfold i64R at *; omega
      · show i64R (max _ _); unfold i64R at *; omega
theorem rdAll_R {lo hi : Int} {S : Kvs} (hl : i64R lo ∧ i64R hi) (hS : SpR S) : ∀ k, i64R (rdAll lo hi (S.take k)).lo ∧ i64R (rdAll lo hi (S.take k)).hi ∧ SpR (rdAll lo hi (S.take k)).less ∧ SpR (rdAll lo hi (S.take k)).gr
  | 0 => ⟨hl.1, hl.2, fun _ h => (by cases h), fun _ h => (by cases h)⟩
  | k + 1 => by
    cases h : S[k]? with
    | none => rw [List.take_add_one, h]; simpa using rdAll_R hl hS k
    | some e => rw [rdAll_snoc h]; exact rdStep_R (rdAll_R hl hS k) (hS e (List.mem_of_getElem? h))
theorem rdF_R {lo hi : Int} {S : Kvs} (hl : i64R lo ∧ i64R hi) (hS : SpR S) : SpR (rdF lo hi S) := by
  have h := rdAll_R hl hS S.length
  rw [List.take_length] at h
  obtain ⟨h1, h2, h3, h4⟩ := h
  intro s hs
  rcases List.mem_append.1 hs with hs | hs
  · rcases List.mem_append.1 hs with hs | hs
    · exact h3 s hs
    · rw [List.mem_singleton.1 hs]; exact ⟨h1, h2⟩
  · exact h4 s hs
theorem rdAll_len (lo hi : Int) (S : Kvs) : ∀ k, (rdAll lo hi (S.take k)).less.length + (rdAll lo hi (S.take k)).gr.length ≤ k
  | 0 => Nat.le_refl _
  | k + 1 => by
    have ih := rdAll_len lo hi S k
    cases h : S[k]? with
    | none => rw [List.take_add_one, h]; simp only [Option.toList_none, List.append_nil]; omega
    | some e =>
      rw [rdAll_snoc h]
      unfold rdStep
      split
      · simp only [List.length_append, List.length_singleton]; omega
      · split
        · simp only [List.length_append, List.length_singleton]; omega
        · show (rdAll lo hi (S.take k)).less.length + (rdAll lo hi (S.take k)).gr.length ≤ k + 1; omega
theorem rdF_len (lo hi : Int) (S : Kvs) : (rdF lo hi S).length ≤ S.length + 1 := by
  have h := rdAll_len lo hi S S.length
  rw [List.take_length] at h
  unfold rdF
  simp only [List.length_append, List.length_singleton]; omega
end Go.V
/-! ## Txb -/
namespace Go.V
open Go Go.RowKit
structure TxA where
  m : Nat
  u : Option Addr
  c : Nat
def txF (x a : Nat) (rt : Int) (xs : List WE) (q : Nat) (S : Kvs) (y : TxA) : List HP := [cel x #[.pointer (some ⟨a, 0, none⟩), .int .u32 rt, .bool false, .map (some y.m), .slice y.u (en2 S).length y.c] 202, blk y.m (.map (mE (List.map wK xs)) q), Own 113 2 (en2 S) y.u y.c]
def Tx (x a : Nat) (rt : Int) (xs : List WE) (q : Nat) (S : Kvs) : HP := ExB (txF x a rt xs q S)
end Go.V
/-! ## Tx1 -/
namespace Go.Proofs.YtlnlnebibgdjdaaGreat
open Go Go.V Go.RowKit Go.Maps
set_option maxRecDepth 8192 in
theorem tx_begin {g w : World} {L : List HP} (a : Nat) (A : AM) (R : List Int) (i : Int) (hA : ARf A R) (hi : i = 0 ∨ (1 ≤ i ∧ A.s.ok i = true)) (hz : R.length ≤ 900000000) (hS : St g (Arn a A :: L) w) :
    Sp Tryz.prog 43 [.pointer (some ⟨a, 0, none⟩), .int .u32 i] w (fun v w' => ∃ (x : Nat), v = .tuple #[.pointer (some ⟨x, 0, none⟩), .int .i64 0] ∧ St g (Tx x a i [] 0 [] :: Arn a (A.ret i) :: L) w' ∧ (ARf (A.ret i) (i :: R))) := by
  refine Sp.enter Tryz.func43 rfl (by kernel_rfl) (by kernel_rfl) ?_
  have _ := hz
  refine WC.seq ?_
  refine WC.region ?_
  refine WL.r 2 rfl ?_
  refine WL.nil ?_
  refine WC.seq ?_
  refine WC.seq ?_
  refine WC.region ?_
  have hri := hA.okrng hi; have hre := AM.ret_eq hA hi (by omega)
  refine WL.r 2 rfl ?_
  refine WL.call rfl rfl (ar_retain (a := a) (A := A) (i := i) (hA := hA.toAWf) (hi := (by omega)) (hS := hS)) rfl ?_
  clear hS; rintro _ w ⟨rfl, hS⟩
  replace hS : St g (Arn a (A.ret i) :: L) w := hS
  refine WL.r 1 rfl ?_
  refine WL.nil ?_
  refine WC.ifF rfl (decide_eq_false ((by rw [hre.2]; decide))) ?_
  refine WC.skip ?_
  refine WC.seq ?_
  refine WC.region ?_
  replace hS : St g (Own 113 2 (en2 []) none 0 :: Arn a (A.ret i) :: L) w := hS.nil_ 113 2
  refine WL.r 2 rfl ?_
  refine WL.mkM rfl rfl hS (fun b1 w hS => ?_)
  refine WL.build rfl rfl (cs := [.pointer (some ⟨a, 0, none⟩), .int .u32 i, .bool false, .map (some b1), .slice none 0 0]) zv_202 rfl rfl ?_
  refine WL.box rfl rfl #[.pointer (some ⟨a, 0, none⟩), .int .u32 i, .bool false, .map (some b1), .slice none 0 0] hS rfl rfl (fun b2 w hS => ?_)
  refine WL.r 2 rfl ?_
  refine WL.nil ?_
  as_aux_lemma =>
    refine WC.ret ?_
    replace hS := St.exClose (f := txF b2 a i [] 0 []) (L := Arn a (A.ret i) :: L) ⟨b1, none, 0⟩ (hS)
    replace hS : St g (Tx b2 a i [] 0 [] :: Arn a (A.ret i) :: L) w := hS
    refine ⟨[.pointer (some ⟨b2, 0, none⟩), .int .i64 0], ⟨rfl, rfl⟩, ?_⟩
    exact ⟨_, rfl, hS, (AM.ret_eq hA hi (by omega)).1⟩
set_option maxRecDepth 8192 in
theorem tx_set_in {g w : World} {L : List HP} (x a : Nat) (rt : Int) (xs : List WE) (q : Nat) (S : Kvs) (M : Wrs) (j : Nat) (e : WE) (k z : Int) (p : Bool) (hW : WOk xs q M) (he : xs[j]? = some e) (hk : e.k = k) (hS : St g (Tx x a rt xs q S :: L) w) :
    Sp Tryz.prog 170 [.pointer (some ⟨x, 0, none⟩), .int .i64 k, .agg #[.bool p, .int .i64 z]] w (fun v w' => ∃ (xs2 : List WE) (q2 : Nat), v = .int .i64 0 ∧ St g (Tx x a rt xs2 q2 S :: L) w' ∧ (WOk xs2 q2 (wput k (p, z) M))) := by
  refine Sp.enter Tryz.func170 rfl (by kernel_rfl) (by kernel_rfl) ?_
  refine WC.seq ?_
  refine WC.region ?_
  refine WL.box rfl rfl #[.bool p, .int .i64 z] hS rfl rfl (fun b1 w hS => ?_)
  refine WL.r 1 rfl ?_
  refine WL.nil ?_
  refine WC.seq ?_
  refine WC.seq ?_
  refine WC.region ?_
  obtain ⟨⟨xm, xu, xc⟩, hS⟩ := St.exOpen (f := txF x a rt xs q S) (hS.at_ 1 rfl)
  replace hS : St g (cel x #[.pointer (some ⟨a, 0, none⟩), .int .u32 rt, .bool false, .map (some xm), .slice xu (List.length (en2 S)) xc] 202 :: blk xm (.map (mE (List.map wK xs)) q) :: Own 113 2 (en2 S) xu xc :: cel b1 #[.bool p, .int .i64 z] 206 :: L) w := hS
  refine WL.run 4 [.bool false] rfl (by exact hS.ld 0 rfl rfl) ?_
  refine WL.nil ?_
  refine WC.ifF rfl rfl ?_
  refine WC.skip ?_
  refine WC.seq ?_
  refine WC.seq ?_
  refine WC.region ?_
  refine WL.run 5 [.map (some xm)] rfl (by exact hS.ld 0 rfl rfl) ?_
  refine WL.lk rfl rfl mt_200 1 hS rfl rfl rfl (by first | trivial | rfl) (r := some (j, .agg #[.bool e.p, .int .i64 e.v])) (hk ▸ ki_in (f := wK) (n := WE.k) hW.k.key hW.k.uniq he) rfl ?_
  refine WL.r 3 rfl ?_
  refine WL.new rfl rfl zv_206 hS (fun b2 w hS => ?_)
  refine WL.stF rfl rfl rfl 0 hS rfl rfl rfl rfl rfl ag_206 (fun w hS => ?_)
  replace hS : St g (cel b2 #[.bool e.p, .int .i64 e.v] 206 :: cel x #[.pointer (some ⟨a, 0, none⟩), .int .u32 rt, .bool false, .map (some xm), .slice xu (List.length (en2 S)) xc] 202 :: blk xm (.map (mE (List.map wK xs)) q) :: Own 113 2 (en2 S) xu xc :: cel b1 #[.bool p, .int .i64 z] 206 :: L) w := hS
  refine WL.r 1 rfl ?_
  refine WL.nil ?_
  as_aux_lemma =>
    refine WC.seq ?_
    refine WC.region ?_
    refine WL.r 3 rfl ?_
    refine WL.skp rfl rfl rfl rfl ?_
    refine WL.skp rfl rfl rfl rfl ?_
    refine WL.skp rfl rfl rfl rfl ?_
    refine WL.skp rfl rfl rfl rfl ?_
    refine WL.skp rfl rfl rfl rfl ?_
    refine WL.skp rfl rfl rfl rfl ?_
    refine WL.r 1 rfl ?_
    refine WL.nil ?_
    refine WC.ifF rfl rfl ?_
    refine WC.skip ?_
    refine WC.seq ?_
    refine WC.plan [([0, 4, 1, 2, 3], some (5, [0, 1, 2, 3, 4])), ([], some (6, []))] (by kernel_rfl) (by kernel_rfl) ?_
    refine WQ.run 5 [.map (some xm)] rfl (by exact hS.ld 1 rfl rfl) ?_
    refine WQ.nil ?_
    intro m1
    replace hS := hS.drewN m1; generalize hwm1 : World.drewN _ _ = w at *; clear hwm1
    refine WL.ldF rfl rfl 4 hS rfl rfl ag_206 ?_
    refine WL.nil ?_
    refine ⟨by exact ⟨RQ.pure rfl rfl rfl rfl, RQ.pure rfl rfl rfl rfl, RQ.pure rfl rfl rfl rfl, RQ.load rfl rfl rfl rfl (hS.ld 1 rfl rfl), RQ.pure rfl rfl rfl rfl⟩, ?_⟩
    refine WQ.nil ?_
    intro m2
    replace hS := hS.drewN m2; generalize hwm2 : World.drewN _ _ = w at *; clear hwm2
    refine WL.muR (List.map wK (List.set xs j (WE.mk k p z e.b))) rfl rfl rfl mt_200 2 hS rfl (k := .int .i64 k) (v := .agg #[.bool p, .int .i64 z]) rfl rfl rfl (by first | trivial | rfl) (j := j) (u := (.agg #[.bool e.p, .int .i64 e.v])) (hk ▸ ki_in (f := wK) (n := WE.k) hW.k.key hW.k.uniq he) (by rw [List.getElem?_map, he, ← hk]; rfl) (List.map_set (f := wK) (l := xs) (i := j) (a := WE.mk k p z e.b)).symm (fun w hS => ?_)
    replace hS : St g (cel b2 #[.bool e.p, .int .i64 e.v] 206 :: cel x #[.pointer (some ⟨a, 0, none⟩), .int .u32 rt, .bool false, .map (some xm), .slice xu (List.length (en2 S)) xc] 202 :: blk xm (.map (mE (List.map wK (List.set xs j (WE.mk k p z e.b)))) q) :: Own 113 2 (en2 S) xu xc :: cel b1 #[.bool p, .int .i64 z] 206 :: L) w := hS
    refine WL.nil ?_
    refine ⟨by exact trivial, ?_⟩
    intro m3
    replace hS := hS.drewN m3; generalize hwm3 : World.drewN _ _ = w at *; clear hwm3
    as_aux_lemma =>
      refine WC.seq ?_
      refine WC.region ?_
      refine WL.r 1 rfl ?_
      refine WL.nil ?_
      refine WC.ret ?_
      replace hS := St.exClose (f := txF x a rt (List.set xs j (WE.mk k p z e.b)) q S) (L := cel b2 #[.bool e.p, .int .i64 e.v] 206 :: cel b1 #[.bool p, .int .i64 z] 206 :: L) ⟨xm, xu, xc⟩ ((hS.sel 4 [1, 1, 1, 0] rfl))
      replace hS : St g (Tx x a rt (List.set xs j (WE.mk k p z e.b)) q S :: cel b2 #[.bool e.p, .int .i64 e.v] 206 :: cel b1 #[.bool p, .int .i64 z] 206 :: L) w := hS
      refine ⟨[.int .i64 0], rfl, ?_⟩
      replace hS := (hS.sel 3 [0] rfl)
      exact ⟨_, _, rfl, hS, by have h9 := hW.set he p z; rw [hk] at h9; exact h9⟩
set_option maxRecDepth 8192 in
theorem tx_set_new {g w : World} {L : List HP} (x a : Nat) (rt : Int) (xs : List WE) (q : Nat) (S : Kvs) (M : Wrs) (k z : Int) (p : Bool) (hW : WOk xs q M) (hn : ∀ e ∈ xs, e.k ≠ k) (hl : M.length < 1000) (hr : i64R k) (hS : St g (Tx x a rt xs q S :: L) w) :
    Sp Tryz.prog 170 [.pointer (some ⟨x, 0, none⟩), .int .i64 k, .agg #[.bool p, .int .i64 z]] w (fun v w' => ∃ (xs2 : List WE) (q2 : Nat), v = .int .i64 0 ∧ St g (Tx x a rt xs2 q2 S :: L) w' ∧ (WOk xs2 q2 (wput k (p, z) M))) := by
  refine Sp.enter Tryz.func170 rfl (by kernel_rfl) (by kernel_rfl) ?_
  have _ := hl
  refine WC.seq ?_
  refine WC.region ?_
  refine WL.box rfl rfl #[.bool p, .int .i64 z] hS rfl rfl (fun b1 w hS => ?_)
  refine WL.r 1 rfl ?_
  refine WL.nil ?_
  refine WC.seq ?_
  refine WC.seq ?_
  refine WC.region ?_
  obtain ⟨⟨xm, xu, xc⟩, hS⟩ := St.exOpen (f := txF x a rt xs q S) (hS.at_ 1 rfl)
  replace hS : St g (cel x #[.pointer (some ⟨a, 0, none⟩), .int .u32 rt, .bool false, .map (some xm), .slice xu (List.length (en2 S)) xc] 202 :: blk xm (.map (mE (List.map wK xs)) q) :: Own 113 2 (en2 S) xu xc :: cel b1 #[.bool p, .int .i64 z] 206 :: L) w := hS
  have hll := hW.len
  refine WL.run 4 [.bool false] rfl (by exact hS.ld 0 rfl rfl) ?_
  refine WL.nil ?_
  refine WC.ifF rfl rfl ?_
  refine WC.skip ?_
  refine WC.seq ?_
  refine WC.seq ?_
  refine WC.region ?_
  refine WL.run 5 [.map (some xm)] rfl (by exact hS.ld 0 rfl rfl) ?_
  refine WL.lk rfl rfl mt_200 1 hS rfl rfl rfl (by first | trivial | rfl) (r := none) (ki_out (f := wK) (n := WE.k) hW.k.key hn) rfl ?_
  refine WL.r 3 rfl ?_
  refine WL.new rfl rfl zv_206 hS (fun b2 w hS => ?_)
  refine WL.stF rfl rfl rfl 0 hS rfl rfl rfl rfl rfl ag_206 (fun w hS => ?_)
  replace hS : St g (cel b2 #[.bool false, .int .i64 0] 206 :: cel x #[.pointer (some ⟨a, 0, none⟩), .int .u32 rt, .bool false, .map (some xm), .slice xu (List.length (en2 S)) xc] 202 :: blk xm (.map (mE (List.map wK xs)) q) :: Own 113 2 (en2 S) xu xc :: cel b1 #[.bool p, .int .i64 z] 206 :: L) w := hS
  refine WL.r 1 rfl ?_
  refine WL.nil ?_
  as_aux_lemma =>
    refine WC.seq ?_
    refine WC.region ?_
    refine WL.r 3 rfl ?_
    refine WL.ung rfl rfl rfl ?_
    refine WL.r 1 rfl ?_
    refine WL.ung rfl rfl rfl ?_
    refine WL.r 1 rfl ?_
    refine WL.ung rfl rfl rfl ?_
    refine WL.r 1 rfl ?_
    refine WL.ung rfl rfl rfl ?_
    refine WL.run 1 [.map (some xm)] rfl (by exact hS.ld 1 rfl rfl) ?_
    refine WL.ung rfl rfl rfl ?_
    refine WL.lenM rfl rfl mt_200 2 hS rfl rfl ?_
    refine WL.ung rfl rfl rfl ?_
    refine WL.r 2 rfl ?_
    refine WL.nil ?_
    refine WC.ifF rfl (decide_eq_false ((by rw [mE_size, List.length_map]; omega))) ?_
    refine WC.skip ?_
    refine WC.seq ?_
    refine WC.plan [([0, 4, 1, 2, 3], some (5, [0, 1, 2, 3, 4])), ([], some (6, []))] (by kernel_rfl) (by kernel_rfl) ?_
    refine WQ.run 5 [.map (some xm)] rfl (by exact hS.ld 1 rfl rfl) ?_
    refine WQ.nil ?_
    intro m1
    replace hS := hS.drewN m1; generalize hwm1 : World.drewN _ _ = w at *; clear hwm1
    refine WL.ldF rfl rfl 4 hS rfl rfl ag_206 ?_
    refine WL.nil ?_
    refine ⟨by exact ⟨RQ.pure rfl rfl rfl rfl, RQ.pure rfl rfl rfl rfl, RQ.pure rfl rfl rfl rfl, RQ.load rfl rfl rfl rfl (hS.ld 1 rfl rfl), RQ.pure rfl rfl rfl rfl⟩, ?_⟩
    refine WQ.nil ?_
    intro m2
    replace hS := hS.drewN m2; generalize hwm2 : World.drewN _ _ = w at *; clear hwm2
    refine WL.muN rfl rfl rfl mt_200 2 hS rfl rfl rfl rfl (by first | trivial | rfl) (ki_out (f := wK) (n := WE.k) hW.k.key hn) (fun w hS => ?_)
    replace hS : St g (cel b2 #[.bool false, .int .i64 0] 206 :: cel x #[.pointer (some ⟨a, 0, none⟩), .int .u32 rt, .bool false, .map (some xm), .slice xu (List.length (en2 S)) xc] 202 :: blk xm (.map (mE ((List.map wK xs) ++ [⟨.int .i64 k, .agg #[.bool p, .int .i64 z], q⟩])) (q + 1)) :: Own 113 2 (en2 S) xu xc :: cel b1 #[.bool p, .int .i64 z] 206 :: L) w := hS
    refine WL.nil ?_
    refine ⟨by exact trivial, ?_⟩
    intro m3
    replace hS := hS.drewN m3; generalize hwm3 : World.drewN _ _ = w at *; clear hwm3
    as_aux_lemma =>
      refine WC.seq ?_
      refine WC.region ?_
      refine WL.r 1 rfl ?_
      refine WL.nil ?_
      refine WC.ret ?_
      replace hS := St.exClose (f := txF x a rt (xs ++ [WE.mk k p z q]) (q + 1) S) (L := cel b2 #[.bool false, .int .i64 0] 206 :: cel b1 #[.bool p, .int .i64 z] 206 :: L) ⟨xm, xu, xc⟩ (by
        have hm : List.map wK xs ++ [(.int .i64 k, .agg #[.bool p, .int .i64 z], q)] = List.map wK (xs ++ [WE.mk k p z q]) := by simp [wK]
        rw [hm] at hS
        exact (hS.sel 4 [1, 1, 1, 0] rfl))
      replace hS : St g (Tx x a rt (xs ++ [WE.mk k p z q]) (q + 1) S :: cel b2 #[.bool false, .int .i64 0] 206 :: cel b1 #[.bool p, .int .i64 z] 206 :: L) w := hS
      refine ⟨[.int .i64 0], rfl, ?_⟩
      replace hS := (hS.sel 3 [0] rfl)
      exact ⟨_, _, rfl, hS, hW.snoc hn hr (by omega) p z⟩
set_option maxRecDepth 8192 in
theorem tx_set_full {g w : World} {L : List HP} (x a : Nat) (rt : Int) (xs : List WE) (q : Nat) (S : Kvs) (M : Wrs) (k z : Int) (p : Bool) (hW : WOk xs q M) (hn : ∀ e ∈ xs, e.k ≠ k) (hl : 1000 ≤ M.length) (hS : St g (Tx x a rt xs q S :: L) w) :
    Sp Tryz.prog 170 [.pointer (some ⟨x, 0, none⟩), .int .i64 k, .agg #[.bool p, .int .i64 z]] w (fun v w' => v = .int .i64 2 ∧ St g (Tx x a rt xs q S :: L) w') := by
  refine Sp.enter Tryz.func170 rfl (by kernel_rfl) (by kernel_rfl) ?_
  have _ := hl
  refine WC.seq ?_
  refine WC.region ?_
  refine WL.box rfl rfl #[.bool p, .int .i64 z] hS rfl rfl (fun b1 w hS => ?_)
  refine WL.r 1 rfl ?_
  refine WL.nil ?_
  refine WC.seq ?_
  refine WC.seq ?_
  refine WC.region ?_
  obtain ⟨⟨xm, xu, xc⟩, hS⟩ := St.exOpen (f := txF x a rt xs q S) (hS.at_ 1 rfl)
  replace hS : St g (cel x #[.pointer (some ⟨a, 0, none⟩), .int .u32 rt, .bool false, .map (some xm), .slice xu (List.length (en2 S)) xc] 202 :: blk xm (.map (mE (List.map wK xs)) q) :: Own 113 2 (en2 S) xu xc :: cel b1 #[.bool p, .int .i64 z] 206 :: L) w := hS
  have hll := hW.len
  refine WL.run 4 [.bool false] rfl (by exact hS.ld 0 rfl rfl) ?_
  refine WL.nil ?_
  refine WC.ifF rfl rfl ?_
  refine WC.skip ?_
  refine WC.seq ?_
  refine WC.seq ?_
  refine WC.region ?_
  refine WL.run 5 [.map (some xm)] rfl (by exact hS.ld 0 rfl rfl) ?_
  refine WL.lk rfl rfl mt_200 1 hS rfl rfl rfl (by first | trivial | rfl) (r := none) (ki_out (f := wK) (n := WE.k) hW.k.key hn) rfl ?_
  refine WL.r 3 rfl ?_
  refine WL.new rfl rfl zv_206 hS (fun b2 w hS => ?_)
  refine WL.stF rfl rfl rfl 0 hS rfl rfl rfl rfl rfl ag_206 (fun w hS => ?_)
  replace hS : St g (cel b2 #[.bool false, .int .i64 0] 206 :: cel x #[.pointer (some ⟨a, 0, none⟩), .int .u32 rt, .bool false, .map (some xm), .slice xu (List.length (en2 S)) xc] 202 :: blk xm (.map (mE (List.map wK xs)) q) :: Own 113 2 (en2 S) xu xc :: cel b1 #[.bool p, .int .i64 z] 206 :: L) w := hS
  refine WL.r 1 rfl ?_
  refine WL.nil ?_
  as_aux_lemma =>
    refine WC.seq ?_
    refine WC.region ?_
    refine WL.r 3 rfl ?_
    refine WL.ung rfl rfl rfl ?_
    refine WL.r 1 rfl ?_
    refine WL.ung rfl rfl rfl ?_
    refine WL.r 1 rfl ?_
    refine WL.ung rfl rfl rfl ?_
    refine WL.r 1 rfl ?_
    refine WL.ung rfl rfl rfl ?_
    refine WL.run 1 [.map (some xm)] rfl (by exact hS.ld 1 rfl rfl) ?_
    refine WL.ung rfl rfl rfl ?_
    refine WL.lenM rfl rfl mt_200 2 hS rfl rfl ?_
    refine WL.ung rfl rfl rfl ?_
    refine WL.r 2 rfl ?_
    refine WL.nil ?_
    refine WC.ifT rfl (decide_eq_true ((by rw [mE_size, List.length_map]; omega))) ?_
    refine WC.seq ?_
    refine WC.region ?_
    refine WL.r 1 rfl ?_
    refine WL.nil ?_
    refine WC.ret ?_
    replace hS := St.exClose (f := txF x a rt xs q S) (L := cel b2 #[.bool false, .int .i64 0] 206 :: cel b1 #[.bool p, .int .i64 z] 206 :: L) ⟨xm, xu, xc⟩ ((hS.sel 4 [1, 1, 1, 0] rfl))
    replace hS : St g (Tx x a rt xs q S :: cel b2 #[.bool false, .int .i64 0] 206 :: cel b1 #[.bool p, .int .i64 z] 206 :: L) w := hS
    refine ⟨[.int .i64 2], rfl, ?_⟩
    replace hS := (hS.sel 3 [0] rfl)
    exact ⟨rfl, hS⟩
theorem wkeys {xs : List WE} {q : Nat} {M : Wrs} (hW : WOk xs q M) (k : Int) : ((wget k M).isSome = true ∧ ∃ (j : Nat) (e : WE), xs[j]? = some e ∧ e.k = k) ∨ ((wget k M).isSome = false ∧ ∀ e ∈ xs, e.k ≠ k) := by
  rcases ki_cases WE.k xs k with ⟨j, e, hj, hk⟩ | hn
  · refine .inl ⟨?_, j, e, hj, hk⟩
    rw [← hk, hW.get hj]; rfl
  · exact .inr ⟨by rw [hW.no hn]; rfl, hn⟩
def wFull (k : Int) (M : Wrs) : Prop := (wget k M).isSome = false ∧ 1000 ≤ M.length
instance (k : Int) (M : Wrs) : Decidable (wFull k M) := by unfold wFull; infer_instance
def wErr (k : Int) (M : Wrs) : Int := if wFull k M then 2 else 0
def wNew (k : Int) (y : Bool × Int) (M : Wrs) : Wrs := if wFull k M then M else wput k y M
theorem wErr_t {k : Int} {M : Wrs} (h : wFull k M) : wErr k M = 2 := if_pos h
theorem wErr_f {k : Int} {M : Wrs} (h : ¬ wFull k M) : wErr k M = 0 := if_neg h
theorem wNew_t {k : Int} {y : Bool × Int} {M : Wrs} (h : wFull k M) : wNew k y M = M := if_pos h
theorem wNew_f {k : Int} {y : Bool × Int} {M : Wrs} (h : ¬ wFull k M) : wNew k y M = wput k y M := if_neg h
set_option maxRecDepth 8192 in
theorem tx_set {g w : World} {L : List HP} (x a : Nat) (rt : Int) (xs : List WE) (q : Nat) (S : Kvs) (M : Wrs) (k z : Int) (p : Bool) (hW : WOk xs q M) (hr : i64R k) (hS : St g (Tx x a rt xs q S :: L) w) :
    Sp Tryz.prog 170 [.pointer (some ⟨x, 0, none⟩), .int .i64 k, .agg #[.bool p, .int .i64 z]] w (fun v w' => ∃ (xs2 : List WE) (q2 : Nat), v = .int .i64 (wErr k M) ∧ St g (Tx x a rt xs2 q2 S :: L) w' ∧ (WOk xs2 q2 (wNew k (p, z) M))) := by
  rcases wkeys hW k with ⟨h1, j, e, he, hk⟩ | ⟨h1, hn⟩
  · have hf : ¬ wFull k M := fun h => by have h9 := h.1; rw [h1] at h9; cases h9
    rw [wErr_f hf]
    refine (tx_set_in x a rt xs q S M j e k z p hW he hk hS).mono fun v w' ⟨xs2, q2, h1, h2, h3⟩ => ⟨xs2, q2, h1, h2, by rw [wNew_f hf]; exact h3⟩
  · by_cases hl : M.length < 1000
    · have hf : ¬ wFull k M := fun h => by have := h.2; omega
      rw [wErr_f hf]
      refine (tx_set_new x a rt xs q S M k z p hW hn hl hr hS).mono fun v w' ⟨xs2, q2, h1, h2, h3⟩ => ⟨xs2, q2, h1, h2, by rw [wNew_f hf]; exact h3⟩
    · have hf : wFull k M := ⟨h1, by omega⟩
      rw [wErr_t hf]
      refine (tx_set_full x a rt xs q S M k z p hW hn (by omega) hS).mono fun v w' ⟨h1, h2⟩ => ⟨xs, q, h1, h2, by rw [wNew_t hf]; exact hW⟩
set_option maxRecDepth 8192 in
theorem tx_put {g w : World} {L : List HP} (x a : Nat) (rt : Int) (xs : List WE) (q : Nat) (S : Kvs) (M : Wrs) (k z : Int) (hW : WOk xs q M) (hr : i64R k) (hS : St g (Tx x a rt xs q S :: L) w) :
    Sp Tryz.prog 108 [.pointer (some ⟨x, 0, none⟩), .int .i64 k, .int .i64 z] w (fun v w' => ∃ (xs2 : List WE) (q2 : Nat), v = .int .i64 (wErr k M) ∧ St g (Tx x a rt xs2 q2 S :: L) w' ∧ (WOk xs2 q2 (wNew k (true, z) M))) := by
  refine Sp.enter Tryz.func108 rfl (by kernel_rfl) (by kernel_rfl) ?_
  refine WC.seq ?_
  refine WC.region ?_
  refine WL.r 1 rfl ?_
  refine WL.nil ?_
  refine WC.seq ?_
  refine WC.region ?_
  refine WL.r 3 rfl ?_
  refine WL.build rfl rfl (cs := [.bool true, .int .i64 z]) zv_206 rfl rfl ?_
  refine WL.call rfl rfl (tx_set (x := x) (a := a) (rt := rt) (xs := xs) (q := q) (S := S) (M := M) (k := k) (z := z) (p := true) (hW := hW) (hr := hr) (hS := hS)) rfl ?_
  clear hS; rintro _ w ⟨xs1, q1, rfl, hS, f1⟩
  replace hS : St g (Tx x a rt xs1 q1 S :: L) w := hS
  refine WL.r 1 rfl ?_
  refine WL.nil ?_
  refine WC.ret ?_
  refine ⟨[.int .i64 (wErr k M)], rfl, ?_⟩
  exact ⟨_, _, rfl, hS, f1⟩
set_option maxRecDepth 8192 in
theorem tx_end {g w : World} {L : List HP} (x a : Nat) (rt : Int) (xs : List WE) (q : Nat) (S : Kvs) (A : AM) (R : List Int) (hA : ARf A (rt :: R)) (hR : R.length ≤ 900000000) (hS : St g (Tx x a rt xs q S :: Arn a A :: L) w) :
    Sp Tryz.prog 173 [.pointer (some ⟨x, 0, none⟩)] w (fun v w' => ∃ (A2 : AM) (xm : Nat) (xu : Option Addr) (xc : Nat), v = .tuple #[] ∧ St g (cel x #[.pointer (some ⟨a, 0, none⟩), .int .u32 rt, .bool true, .map (some xm), .slice xu (List.length (en2 S)) xc] 202 :: Arn a A2 :: L) w' ∧ (Rl A A2 R)) := by
  refine Sp.enter Tryz.func173 rfl (by kernel_rfl) (by kernel_rfl) ?_
  refine WC.seq ?_
  refine WC.region ?_
  obtain ⟨⟨xm, xu, xc⟩, hS⟩ := St.exOpen (f := txF x a rt xs q S) hS
  replace hS : St g (cel x #[.pointer (some ⟨a, 0, none⟩), .int .u32 rt, .bool false, .map (some xm), .slice xu (List.length (en2 S)) xc] 202 :: blk xm (.map (mE (List.map wK xs)) q) :: Own 113 2 (en2 S) xu xc :: Arn a A :: L) w := hS
  have hrr := hA.rng (r := rt) (by simp)
  refine WL.r 3 rfl ?_
  refine WL.st rfl rfl rfl 0 hS rfl rfl rfl rfl rfl rfl (fun w hS => ?_)
  replace hS : St g (cel x #[.pointer (some ⟨a, 0, none⟩), .int .u32 rt, .bool true, .map (some xm), .slice xu (List.length (en2 S)) xc] 202 :: blk xm (.map (mE (List.map wK xs)) q) :: Own 113 2 (en2 S) xu xc :: Arn a A :: L) w := hS
  refine WL.nil ?_
  refine WC.plan [([0, 4, 1, 5, 2, 6, 3, 7], some (8, []))] (by kernel_rfl) (by kernel_rfl) ?_
  refine WQ.run 8 [.pointer (some ⟨a, 0, none⟩), .int .u32 rt] rfl (by exact ⟨hS.ld 0 rfl rfl, hS.ld 0 rfl rfl⟩) ?_
  refine WQ.nil ?_
  intro m1
  replace hS := hS.drewN m1; generalize hwm1 : World.drewN _ _ = w at *; clear hwm1
  refine WL.call rfl rfl (tr_rel (a := a) (A := A) (R := R) (i := rt) (hA := hA) (hR := hR) (hS := (hS.sel 4 [3, 0, 0, 0] rfl))) rfl ?_
  clear hS; rintro _ w ⟨A1, f1, rfl, hS, f2, f3⟩
  replace hS : St g (Arn a A1 :: cel x #[.pointer (some ⟨a, 0, none⟩), .int .u32 rt, .bool true, .map (some xm), .slice xu (List.length (en2 S)) xc] 202 :: blk xm (.map (mE (List.map wK xs)) q) :: Own 113 2 (en2 S) xu xc :: L) w := hS
  refine WL.nil ?_
  refine ⟨by exact trivial, ?_⟩
  intro m2
  replace hS := hS.drewN m2; generalize hwm2 : World.drewN _ _ = w at *; clear hwm2
  refine ⟨[], trivial, ?_⟩
  replace hS := (hS.sel 4 [1, 0] rfl)
  exact ⟨_, _, _, _, rfl, hS, f2⟩
end Go.Proofs.YtlnlnebibgdjdaaGreat
/-! ## Sky -/
namespace Go.Proofs
open Go.Shelf
def Tryz.keysW_ren : Go.Shelf.Ren := ⟨fun | 7 => 206 | 10 => 252 | n => n, fun | 23 => 200 | 26 => 2 | 3 => 206 | 28 => 191 | 0 => 0 | 27 => 190 | 33 => 263 | 4 => 4 | n => n, fun | n => n⟩
theorem Tryz.keysW : Go.Proofs.SlLaysZI.n7 Tryz.prog Tryz.keysW_ren := {
  mixed := by kernel_rfl
  f7 := ⟨Tryz.f206.name, by decide, Tryz.func206.trans (congrArg some (by kernel_rfl))⟩
  f10 := ⟨Tryz.f252.name, by decide, Tryz.func252.trans (congrArg some (by kernel_rfl))⟩
  t0 := Tryz.underlying0
  a0 := Tryz.isAgg0
  z0 := Tryz.sizeOf0
  v0 := Tryz.zeroValue0
  t4 := Tryz.underlying4
  a4 := Tryz.isAgg4
  z4 := Tryz.sizeOf4
  v4 := Tryz.zeroValue4
  t23 := Tryz.underlying200
  a23 := Tryz.isAgg200
  z23 := Tryz.sizeOf200
  v23 := Tryz.zeroValue200
  t26 := Tryz.underlying2
  a26 := Tryz.isAgg2
  z26 := Tryz.sizeOf2
  v26 := Tryz.zeroValue2
  t27 := Tryz.underlying190
  a27 := Tryz.isAgg190
  z27 := Tryz.sizeOf190
  v27 := Tryz.zeroValue190
  t28 := Tryz.underlying191
  a28 := Tryz.isAgg191
  z28 := Tryz.sizeOf191
  v28 := Tryz.zeroValue191
  t33 := Tryz.underlying263
  a33 := Tryz.isAgg263
  z33 := Tryz.sizeOf263
  v33 := Tryz.zeroValue263 }
def Tryz.sortedL_ren : Go.Shelf.Ren := ⟨fun | 6 => 102 | 8 => 166 | 9 => 167 | 11 => 204 | 13 => 176 | 12 => 205 | 23 => 216 | 24 => 217 | 14 => 243 | 15 => 244 | 16 => 245 | 17 => 246 | 18 => 247 | 19 => 248 | 20 => 249 | 21 => 250 | 22 => 251 | 25 => 264 | 26 => 254 | 27 => 255 | 28 => 265 | 29 => 266 | 30 => 267 | 31 => 270 | n => n, fun | 26 => 2 | 28 => 191 | 24 => 109 | 0 => 0 | 3 => 3 | 37 => 272 | 48 => 64 | 50 => 23 | 4 => 4 | 40 => 308 | 39 => 307 | 45 => 312 | 5 => 5 | 9 => 9 | 51 => 345 | 55 => 349 | 57 => 357 | 58 => 358 | 33 => 263 | n => n, fun | n => n⟩
theorem Tryz.sortedL : Go.Proofs.SlLaysZI.n6 Tryz.prog Tryz.sortedL_ren := {
  mixed := by kernel_rfl
  f6 := ⟨Tryz.f102.name, by decide, Tryz.func102.trans (congrArg some (by kernel_rfl))⟩
  f8 := ⟨Tryz.f166.name, by decide, Tryz.func166.trans (congrArg some (by kernel_rfl))⟩
  f11 := ⟨Tryz.f204.name, by decide, Tryz.func204.trans (congrArg some (by kernel_rfl))⟩
  t0 := Tryz.underlying0
  a0 := Tryz.isAgg0
  z0 := Tryz.sizeOf0
  v0 := Tryz.zeroValue0
  t24 := Tryz.underlying109
  a24 := Tryz.isAgg109
  z24 := Tryz.sizeOf109
  v24 := Tryz.zeroValue109
  t26 := Tryz.underlying2
  a26 := Tryz.isAgg2
  z26 := Tryz.sizeOf2
  v26 := Tryz.zeroValue2
  t28 := Tryz.underlying191
  a28 := Tryz.isAgg191
  z28 := Tryz.sizeOf191
  v28 := Tryz.zeroValue191
  i26 := by kernel_rfl }
def Tryz.sortL_ren : Go.Shelf.Ren := ⟨fun | 5 => 167 | 8 => 176 | 7 => 205 | 19 => 216 | 20 => 217 | 10 => 243 | 11 => 244 | 12 => 245 | 13 => 246 | 14 => 247 | 15 => 248 | 16 => 249 | 17 => 250 | 18 => 251 | 30 => 264 | 31 => 254 | 32 => 255 | 33 => 265 | 34 => 266 | 35 => 267 | 40 => 270 | n => n, fun | 23 => 109 | 25 => 2 | 3 => 3 | 32 => 272 | 22 => 109 | 0 => 0 | 44 => 64 | 46 => 23 | 4 => 4 | 36 => 308 | 35 => 307 | 41 => 312 | 5 => 5 | 9 => 9 | 53 => 345 | 57 => 349 | 63 => 357 | 64 => 358 | n => n, fun | n => n⟩
theorem Tryz.sortL : Go.Proofs.SlLaysM.n5 Tryz.prog Tryz.sortL_ren := {
  mixed := by kernel_rfl
  f5 := ⟨Tryz.f167.name, by decide, Tryz.func167.trans (congrArg some (by kernel_rfl))⟩
  f7 := ⟨Tryz.f205.name, by decide, Tryz.func205.trans (congrArg some (by kernel_rfl))⟩
  f8 := Tryz.func176.trans (congrArg some (by kernel_rfl))
  f10 := ⟨Tryz.f243.name, by decide, Tryz.func243.trans (congrArg some (by kernel_rfl))⟩
  f11 := ⟨Tryz.f244.name, by decide, Tryz.func244.trans (congrArg some (by kernel_rfl))⟩
  f12 := ⟨Tryz.f245.name, by decide, Tryz.func245.trans (congrArg some (by kernel_rfl))⟩
  f13 := ⟨Tryz.f246.name, by decide, Tryz.func246.trans (congrArg some (by kernel_rfl))⟩
  f14 := ⟨Tryz.f247.name, by decide, Tryz.func247.trans (congrArg some (by kernel_rfl))⟩
  f15 := ⟨Tryz.f248.name, by decide, Tryz.func248.trans (congrArg some (by kernel_rfl))⟩
  f16 := ⟨Tryz.f249.name, by decide, Tryz.func249.trans (congrArg some (by kernel_rfl))⟩
  f17 := ⟨Tryz.f250.name, by decide, Tryz.func250.trans (congrArg some (by kernel_rfl))⟩
  f18 := ⟨Tryz.f251.name, by decide, Tryz.func251.trans (congrArg some (by kernel_rfl))⟩
  f19 := Tryz.func216.trans (congrArg some (by kernel_rfl))
  f20 := Tryz.func217.trans (congrArg some (by kernel_rfl))
  f30 := ⟨Tryz.f264.name, by decide, Tryz.func264.trans (congrArg some (by kernel_rfl))⟩
  f31 := Tryz.func254.trans (congrArg some (by kernel_rfl))
  f32 := Tryz.func255.trans (congrArg some (by kernel_rfl))
  f33 := ⟨Tryz.f265.name, by decide, Tryz.func265.trans (congrArg some (by kernel_rfl))⟩
  f34 := ⟨Tryz.f266.name, by decide, Tryz.func266.trans (congrArg some (by kernel_rfl))⟩
  f35 := ⟨Tryz.f267.name, by decide, Tryz.func267.trans (congrArg some (by kernel_rfl))⟩
  f40 := ⟨Tryz.f270.name, by decide, Tryz.func270.trans (congrArg some (by kernel_rfl))⟩
  t0 := Tryz.underlying0
  a0 := Tryz.isAgg0
  z0 := Tryz.sizeOf0
  v0 := Tryz.zeroValue0
  t3 := Tryz.underlying3
  a3 := Tryz.isAgg3
  z3 := Tryz.sizeOf3
  v3 := Tryz.zeroValue3
  t4 := Tryz.underlying4
  a4 := Tryz.isAgg4
  z4 := Tryz.sizeOf4
  v4 := Tryz.zeroValue4
  t5 := Tryz.underlying5
  a5 := Tryz.isAgg5
  z5 := Tryz.sizeOf5
  v5 := Tryz.zeroValue5
  t9 := Tryz.underlying9
  a9 := Tryz.isAgg9
  z9 := Tryz.sizeOf9
  v9 := Tryz.zeroValue9
  t22 := Tryz.underlying109
  a22 := Tryz.isAgg109
  z22 := Tryz.sizeOf109
  v22 := Tryz.zeroValue109
  t23 := Tryz.underlying109
  a23 := Tryz.isAgg109
  z23 := Tryz.sizeOf109
  v23 := Tryz.zeroValue109
  t25 := Tryz.underlying2
  a25 := Tryz.isAgg2
  z25 := Tryz.sizeOf2
  v25 := Tryz.zeroValue2
  t32 := Tryz.underlying272
  a32 := Tryz.isAgg272
  z32 := Tryz.sizeOf272
  v32 := Tryz.zeroValue272
  t35 := Tryz.underlying307
  a35 := Tryz.isAgg307
  z35 := Tryz.sizeOf307
  v35 := Tryz.zeroValue307
  t36 := Tryz.underlying308
  a36 := Tryz.isAgg308
  z36 := Tryz.sizeOf308
  v36 := Tryz.zeroValue308
  t41 := Tryz.underlying312
  a41 := Tryz.isAgg312
  z41 := Tryz.sizeOf312
  v41 := Tryz.zeroValue312
  t44 := Tryz.underlying64
  a44 := Tryz.isAgg64
  z44 := Tryz.sizeOf64
  v44 := Tryz.zeroValue64
  t46 := Tryz.underlying23
  a46 := Tryz.isAgg23
  z46 := Tryz.sizeOf23
  v46 := Tryz.zeroValue23
  t53 := Tryz.underlying345
  a53 := Tryz.isAgg345
  z53 := Tryz.sizeOf345
  v53 := Tryz.zeroValue345
  t57 := Tryz.underlying349
  a57 := Tryz.isAgg349
  z57 := Tryz.sizeOf349
  v57 := Tryz.zeroValue349
  t63 := Tryz.underlying357
  a63 := Tryz.isAgg357
  z63 := Tryz.sizeOf357
  v63 := Tryz.zeroValue357
  t64 := Tryz.underlying358
  a64 := Tryz.isAgg358
  z64 := Tryz.sizeOf358
  v64 := Tryz.zeroValue358 }
end Go.Proofs
