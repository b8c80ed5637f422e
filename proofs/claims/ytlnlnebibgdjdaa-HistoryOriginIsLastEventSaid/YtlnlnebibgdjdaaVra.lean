/-
  The engine, in one text: Vem, Ven, Veo, Vep. No program.
  Conditions: none; every fact is proved from the library's own definitions.
-/
import Derived.Test.YtlnlnebibgdjdaaAga
import Derived.Test.YtlnlnebibgdjdaaTra
/-! ## Vem -/
namespace Go.V
open Go Go.RowKit

structure RN where
  n : Int
  root : Int
  born : Nat
def rK (x : RN) : Value × Value × Nat := (.int .i64 x.n, .int .u32 x.root, x.born)
structure VM where
  T : TM
  xs : List VN
  q : Nat
  last : Int
  rs : List RN
  q2 : Nat
  cap : Int
structure VsA where
  t : Nat
  p : Nat
  m : Nat
  m2 : Nat
def vstF (s a : Nat) (V : VM) (x : VsA) : List HP := [cel s #[.pointer (some ⟨a, 0, none⟩), .pointer (some ⟨x.t, 0, none⟩), .pointer (some ⟨x.p, 0, none⟩), .map (some x.m2), .int .i64 V.cap] 100, Tbl x.t V.T, cel x.p #[.int .i64 V.cap, .int .i64 V.last, .map (some x.m)] 161, blk x.m (.map (mE (List.map vK V.xs)) V.q), Shs vF V.xs, blk x.m2 (.map (mE (List.map rK V.rs)) V.q2)]
def Vst (s a : Nat) (V : VM) : HP := ExB (vstF s a V)
def TM.vl (T : TM) (i : Int) : Int := (T.vals[i.toNat]?).getD 0
/-- the store is one: R are the references of others -/
structure VI (V : VM) (A : AM) (R : List Int) : Prop where
  t : TOk V.T
  g : GI V.xs V.q V.cap V.last
  k : KOk rK RN.n V.rs V.q2
  pre : ∀ z, (∃ r ∈ V.rs, r.n = z) ↔ preG V.xs z = true
  lv : ∀ i : Int, 0 ≤ i → V.T.s.ok i = true → liveG V.xs (V.T.vl i) = true
  inj : ∀ i j : Int, 0 ≤ i → 0 ≤ j → V.T.s.ok i = true → V.T.s.ok j = true → V.T.vl i = V.T.vl j → i = j
  all : ∀ z, liveG V.xs z = true → ∃ i : Int, 0 ≤ i ∧ V.T.s.ok i = true ∧ V.T.vl i = z
  ref : ARf A (V.rs.map RN.root ++ R)
  cp : V.T.s.cap = V.cap
def VM.new (cap : Nat) : VM := ⟨TM.new cap, [], 0, 0, [], 0, cap⟩
theorem VM.open_val {V : VM} {A : AM} {R : List Int} (h : VI V A R) {x : Int} (ho : V.T.s.opn x = true) : liveG V.xs (V.T.val x) = true ∧ ∃ (k : Nat) (r : RN), V.rs[k]? = some r ∧ r.n = V.T.val x := by
  have h1 := h.lv (x % 4294967296) (by omega) (SM.opn_ok ho).1
  refine ⟨h1, ?_⟩
  obtain ⟨r, hr, hn⟩ := (h.pre _).2 (live_pre h1)
  obtain ⟨k, hk⟩ := List.mem_iff_getElem?.1 hr
  exact ⟨k, r, hk, hn⟩
theorem SM.new_live (cap : Nat) (i : Int) : (SM.new cap).ok i = false := by
  unfold SM.ok SM.new
  simp only
  cases hx : (List.replicate (cap + 1) false)[i.toNat]? with
  | none => rfl
  | some b => rw [List.eq_of_mem_replicate (List.mem_of_getElem? hx)]; rfl
theorem AM.new_rf {cap : Nat} (h : 1 ≤ cap ∧ cap ≤ 65536) : ARf (AM.new cap) [] := by
  have hno := SM.new_live cap
  refine ⟨AM.new_wf h, fun i hi => ?_, fun i hi => ?_, fun i hi => ?_, fun _ hr => (by cases hr), fun i hi => ?_, fun i _ _ => ?_, by simp⟩
  · have := hno i; rw [show (AM.new cap).s = SM.new cap from rfl, this] at hi; cases hi
  · have := hno i; rw [show (AM.new cap).s = SM.new cap from rfl, this] at hi; cases hi
  · have := hno i; rw [show (AM.new cap).s = SM.new cap from rfl, this] at hi; cases hi
  · have := hno i; rw [show (AM.new cap).s = SM.new cap from rfl, this] at hi; cases hi
  · unfold AM.nd AM.new
    simp only
    cases hx : (List.replicate (cap + 1) Nd.zero)[i.toNat]? with
    | none => rfl
    | some b => rw [List.eq_of_mem_replicate (List.mem_of_getElem? hx)]; rfl
theorem VI.new {slots cap : Nat} (h1 : 1 ≤ slots ∧ slots ≤ 65536) (h2 : 1 ≤ cap ∧ cap ≤ 4096) : VI (VM.new cap) (AM.new slots) [] := by
  have hno := SM.new_live cap
  refine ⟨TM.new_ok (by omega), ⟨GOk.nil, fun _ h => (by cases h), Int.le_refl _, by show 1 ≤ (cap : Int) ∧ (cap : Int) ≤ 4096; omega⟩, KOk.nil, fun z => ?_, fun i _ hi => ?_, fun i j _ _ hi => ?_, fun z hz => (by cases hz), AM.new_rf h1, ?_⟩
  · exact ⟨fun ⟨_, h, _⟩ => (by cases h), fun h => (by cases h)⟩
  · rw [show (VM.new cap).T.s = SM.new cap from rfl, hno i] at hi; cases hi
  · rw [show (VM.new cap).T.s = SM.new cap from rfl, hno i] at hi; cases hi
  · show (((List.replicate (cap + 1) false).length : Nat) : Int) - 1 = cap
    simp
/-- how many versions can be added -/
def VM.room (V : VM) : Int := min (V.cap - V.xs.length) (V.cap - (V.T.s.cap - V.T.s.free))
def VM.rootOf (V : VM) (z : Int) : Int := ((V.rs.find? fun r => decide (r.n = z)).map RN.root).getD 0
theorem VM.rootOf_at {V : VM} (hu : V.rs.Pairwise fun x y => RN.n x ≠ RN.n y) {k : Nat} {r : RN} (hr : V.rs[k]? = some r) : V.rootOf r.n = r.root := by
  unfold VM.rootOf
  have : V.rs.find? (fun x => decide (x.n = r.n)) = some r := by
    cases hf : V.rs.find? (fun x => decide (x.n = r.n)) with
    | none => exact absurd (decide_eq_true rfl) (List.find?_eq_none.1 hf r (List.mem_of_getElem? hr))
    | some y =>
      have hn : y.n = r.n := of_decide_eq_true (List.find?_some (p := fun q : RN => decide (q.n = r.n)) hf)
      obtain ⟨j, hj⟩ := List.mem_iff_getElem?.1 (List.mem_of_find?_eq_some hf)
      have h1 := (List.getElem?_eq_some_iff.1 hj).1
      have h2 := (List.getElem?_eq_some_iff.1 hr).1
      have e1 : V.rs[j] = y := (List.getElem?_eq_some_iff.1 hj).2
      have e2 : V.rs[k] = r := (List.getElem?_eq_some_iff.1 hr).2
      rcases Nat.lt_trichotomy j k with hl | hl | hl
      · exact absurd (by rw [e1, e2]; exact hn) (List.pairwise_iff_getElem.1 hu j k h1 h2 hl)
      · subst hl; rw [hj] at hr; exact hr
      · exact absurd (by rw [e1, e2]; exact hn.symm) (List.pairwise_iff_getElem.1 hu k j h2 h1 hl)
  rw [this]; rfl
end Go.V

/-! ## Ven -/
namespace Go.V
open Go Go.RowKit

theorem TM.open_vl {T : TM} (h : TOk T) (hf : 0 < T.s.free) (v : Int) {i : Int} (hi : 0 ≤ i) : (T.open v).vl i = if i = T.s.next then v else T.vl i := by
  have hn := SM.next_rng h.s hf
  unfold TM.vl TM.open
  simp only
  rw [List.getElem?_set]
  by_cases e : i = T.s.next
  · subst e; rw [if_pos rfl, if_pos (by rw [h.vl]; exact hn.2.2.1), if_pos rfl]; rfl
  · rw [if_neg (by omega), if_neg e]
theorem TM.open_ok {T : TM} (h : TOk T) (hf : 0 < T.s.free) (v : Int) {i : Int} (hi : 0 ≤ i) : (T.open v).s.ok i = if i = T.s.next then true else T.s.ok i := SM.alloc_ok' h.s hf hi
theorem rs_len {V : VM} {A : AM} {R : List Int} (h : VI V A R) : V.rs.length ≤ V.xs.length := by
  have h1 := nd_le (l := V.rs.map RN.n) (m := V.xs.map VN.n) (List.pairwise_map.2 h.k.uniq) (fun z hz => by
    obtain ⟨r, hr, e⟩ := List.mem_map.1 hz
    obtain ⟨x, hx, e2⟩ := pre_iff.1 ((h.pre z).1 ⟨r, hr, e⟩)
    exact List.mem_map.2 ⟨x, hx, e2⟩)
  simpa using h1
def VM.add (V : VM) (xs2 : List VN) (q : Nat) (root : Int) : VM := ⟨V.T.open (V.last + 1), xs2, q, V.last + 1, V.rs ++ [⟨V.last + 1, root, V.q2⟩], V.q2 + 1, V.cap⟩
theorem VI.add {V : VM} {A : AM} {R : List Int} (h : VI V A R) {root : Int} (hr : root = 0 ∨ (1 ≤ root ∧ A.s.ok root = true)) {ps : List Int} {xs2 : List VN} {q : Nat} (h0 : addE V.xs V.cap ps = 0) (hA : AddP V.xs V.cap V.last ps xs2 (V.last + 1))
    (hG : GI xs2 q V.cap (V.last + 1)) (hf : 0 < V.T.s.free) (hla : V.last < 1000000000) (hlen : R.length ≤ 900000000) : VI (V.add xs2 q root) (A.ret root) R := by
  have hla0 := h.g.la
  have hle := rs_len h
  have hnum := hG.ok.num
  obtain ⟨_, _, hn, hlv, hpr, hxl⟩ := (AddP.facts h.g.le hA).resolve_left fun e => e.1 h0
  have hlast : ∀ z, preG V.xs z = true → z ≤ V.last := fun z hz => by
    obtain ⟨x, hx, e⟩ := pre_iff.1 hz
    have := h.g.le x hx; omega
  have hnx := SM.next_rng h.t.s hf
  have hlvl : ∀ i : Int, 0 ≤ i → V.T.s.ok i = true → V.T.vl i ≤ V.last := fun i h0 hi => hlast _ (live_pre (h.lv i h0 hi))
  refine ⟨h.t.open hf (by omega), hG, h.k.snoc rfl (fun y hy e => ?_) rfl (by show _ ≤ V.last + 1 ∧ V.last + 1 ≤ _; omega) (by omega), fun z => ?_, fun i hi ho => ?_, fun i j hi hj ho ho2 e => ?_, fun z hz => ?_, ?_, ?_⟩
  · have := hlast _ ((h.pre y.n).1 ⟨y, hy, rfl⟩)
    have e2 : y.n = V.last + 1 := e
    omega
  · show (∃ r ∈ V.rs ++ [_], r.n = z) ↔ preG xs2 z = true
    rw [hpr z, Bool.or_eq_true, ← h.pre z]
    constructor
    · rintro ⟨r, hr2, e⟩
      rcases List.mem_append.1 hr2 with hr2 | hr2
      · exact .inl ⟨r, hr2, e⟩
      · rw [List.mem_singleton.1 hr2] at e
        exact .inr (decide_eq_true e.symm)
    · rintro (⟨r, hr2, e⟩ | e)
      · exact ⟨r, List.mem_append_left _ hr2, e⟩
      · exact ⟨_, List.mem_append_right _ (List.mem_singleton.2 rfl), (of_decide_eq_true e).symm⟩
  · show liveG xs2 ((V.T.open (V.last + 1)).vl i) = true
    rw [TM.open_vl h.t hf _ hi, hlv]
    rw [show (V.add xs2 q root).T.s.ok i = _ from TM.open_ok h.t hf _ hi] at ho
    by_cases e : i = V.T.s.next
    · rw [if_pos e]; simp
    · rw [if_neg e] at ho ⊢
      rw [h.lv i hi ho, Bool.true_or]
  · rw [show (V.add xs2 q root).T.s.ok i = _ from TM.open_ok h.t hf _ hi] at ho
    rw [show (V.add xs2 q root).T.s.ok j = _ from TM.open_ok h.t hf _ hj] at ho2
    rw [show (V.add xs2 q root).T.vl i = _ from TM.open_vl h.t hf _ hi, show (V.add xs2 q root).T.vl j = _ from TM.open_vl h.t hf _ hj] at e
    by_cases e1 : i = V.T.s.next
    · by_cases e2 : j = V.T.s.next
      · rw [e1, e2]
      · rw [if_neg e2] at ho2
        rw [if_pos e1, if_neg e2] at e
        have := hlvl j hj ho2; omega
    · rw [if_neg e1] at ho
      by_cases e2 : j = V.T.s.next
      · rw [if_neg e1, if_pos e2] at e
        have := hlvl i hi ho; omega
      · rw [if_neg e2] at ho2
        rw [if_neg e1, if_neg e2] at e
        exact h.inj i j hi hj ho ho2 e
  · have hz2 : (liveG V.xs z || decide (z = V.last + 1)) = true := by rw [← hlv z]; exact hz
    rcases Bool.or_eq_true_iff.1 hz2 with hz2 | hz2
    · obtain ⟨i, h1, h2, h3⟩ := h.all z hz2
      have hne : i ≠ V.T.s.next := fun e => by rw [e, hnx.2.2.2] at h2; cases h2
      exact ⟨i, h1, by rw [show (V.add xs2 q root).T.s.ok i = _ from TM.open_ok h.t hf _ h1, if_neg hne]; exact h2, by rw [show (V.add xs2 q root).T.vl i = _ from TM.open_vl h.t hf _ h1, if_neg hne]; exact h3⟩
    · have h1 : 0 ≤ V.T.s.next := by omega
      exact ⟨V.T.s.next, h1, by rw [show (V.add xs2 q root).T.s.ok _ = _ from TM.open_ok h.t hf _ h1, if_pos rfl], by rw [show (V.add xs2 q root).T.vl _ = _ from TM.open_vl h.t hf _ h1, if_pos rfl]; exact (of_decide_eq_true hz2).symm⟩
  · have h1 := (AM.ret_eq h.ref hr (by rw [List.length_append, List.length_map]; omega)).1
    refine h1.perm ?_
    show (root :: (V.rs.map RN.root ++ R)).Perm ((V.rs ++ [(⟨V.last + 1, root, V.q2⟩ : RN)]).map RN.root ++ R)
    rw [List.map_append]
    simpa using (List.perm_middle (a := root) (l₁ := V.rs.map RN.root) (l₂ := R)).symm
  · show (V.T.s.alloc).cap = V.cap
    rw [← h.cp]
    unfold SM.cap SM.alloc; simp
theorem root_ok {V : VM} {A : AM} {R : List Int} (h : VI V A R) {x : Int} (ho : V.T.s.opn x = true) : V.rootOf (V.T.val x) = 0 ∨ (1 ≤ V.rootOf (V.T.val x) ∧ A.s.ok (V.rootOf (V.T.val x)) = true) := by
  obtain ⟨_, k, r, hk, hn⟩ := VM.open_val h ho
  rw [← hn, VM.rootOf_at h.k.uniq hk]
  exact h.ref.ref _ (List.mem_append_left _ (List.mem_map.2 ⟨r, List.mem_of_getElem? hk, rfl⟩))
theorem open_inj {V : VM} {A : AM} {R : List Int} (h : VI V A R) {x y : Int} (hx : V.T.s.opn x = true) (hy : V.T.s.opn y = true) (e : V.T.val x = V.T.val y) : x = y := by
  obtain ⟨h1, h2⟩ := SM.opn_ok hx
  obtain ⟨h3, h4⟩ := SM.opn_ok hy
  have := h.inj (x % 4294967296) (y % 4294967296) (by omega) (by omega) h1 h3 e
  rw [← h2, ← h4, this]
theorem okPs_map {V : VM} {A : AM} {R : List Int} (h : VI V A R) {hs : List Int} (hp : okPs hs) (ho : ∀ x ∈ hs, V.T.s.opn x = true) : okPs (hs.map V.T.val) := by
  refine ⟨by simpa using hp.1, fun x y e => ?_⟩
  match hs, hp, ho, e with
  | [u, v], hp, ho, e =>
    simp only [List.map_cons, List.map_nil, List.cons.injEq, and_true] at e
    obtain ⟨e1, e2⟩ := e
    intro e3
    exact hp.2 u v rfl (open_inj h (ho u (by simp)) (ho v (by simp)) (by rw [e1, e2]; exact e3))
theorem room_pos {V : VM} {A : AM} {R : List Int} (h : VI V A R) (hr : 0 < V.room) : (V.xs.length : Int) < V.cap ∧ 0 < V.T.s.free := by
  have := h.cp
  unfold VM.room at hr
  omega
theorem addE_room {V : VM} {A : AM} {R : List Int} (h : VI V A R) {hs : List Int} (hp : okPs hs) (ho : ∀ x ∈ hs, V.T.s.opn x = true) (hr : 0 < V.room) : addE V.xs V.cap (hs.map V.T.val) = 0 := by
  refine addE_ok (okPs_map h hp ho) (fun z hz => ?_) (by have := (room_pos h hr).1; omega)
  obtain ⟨x, hx, rfl⟩ := List.mem_map.1 hz
  exact (VM.open_val h (ho x hx)).1
end Go.V

/-! ## Veo -/
namespace Go.V
open Go Go.RowKit

theorem TM.newH_mod {T : TM} (h : TOk T) (hf : 0 < T.s.free) : T.newH % 4294967296 = T.s.next ∧ 0 ≤ T.newH ∧ T.newH ≤ 18446744073709551615 := by
  have hn := SM.next_rng h.s hf
  have hc := h.s.cap
  have e : T.s.cap = (T.s.used.length : Int) - 1 := rfl
  have hg := (SM.alloc_sok h.s hf)
  have h1 := SOk.gen_rng hg T.s.next
  unfold TM.newH SM.hd
  omega
theorem TOk.newH_opn {T : TM} (h : TOk T) (hf : 0 < T.s.free) (v : Int) : (T.open v).s.opn T.newH = true ∧ (T.open v).val T.newH = v := by
  obtain ⟨h1, h2, h3⟩ := TM.newH_mod h hf
  have hn := SM.next_rng h.s hf
  constructor
  · unfold SM.opn
    rw [h1]
    have e1 : (T.open v).s.ok T.s.next = true := by rw [TM.open_ok h hf v (by omega), if_pos rfl]
    rw [e1]
    simp [TM.open, TM.newH]
  · show (T.open v).vl (T.newH % 4294967296) = v
    rw [h1, TM.open_vl h hf v (by omega), if_pos rfl]
theorem SM.alloc_gen {S : SM} (i : Int) (h0 : 0 ≤ i) (hn : 0 ≤ S.next) (hne : i ≠ S.next) : S.alloc.genOf i = S.genOf i := by
  unfold SM.genOf SM.alloc
  simp only
  rw [List.getElem?_set, if_neg (by omega)]
theorem TOk.opn_open {T : TM} (h : TOk T) (hf : 0 < T.s.free) (v : Int) {x : Int} (hx : T.s.opn x = true) : (T.open v).s.opn x = true ∧ (T.open v).val x = T.val x := by
  obtain ⟨h1, h2⟩ := SM.opn_ok hx
  have hn := SM.next_rng h.s hf
  have hne : x % 4294967296 ≠ T.s.next := fun e => by rw [e, hn.2.2.2] at h1; cases h1
  constructor
  · unfold SM.opn
    have e1 : (T.open v).s.ok (x % 4294967296) = true := by rw [TM.open_ok h hf v (by omega), if_neg hne]; exact h1
    rw [e1]
    have e2 : (T.open v).s.hd (x % 4294967296) = x := by
      show T.s.alloc.genOf (x % 4294967296) * 4294967296 + x % 4294967296 = x
      rw [SM.alloc_gen _ (by omega) (by omega) hne]; exact h2
    rw [e2]; simp
  · show (T.open v).vl (x % 4294967296) = T.vl (x % 4294967296)
    rw [TM.open_vl h hf v (by omega), if_neg hne]
theorem TOk.opn_close {T : TM} (h : TOk T) {x y : Int} (hx : T.s.opn x = true) (hy : T.s.opn y = true) (hne : T.val x ≠ T.val y) : (T.close x).s.opn y = true ∧ (T.close x).val y = T.val y := by
  obtain ⟨h1, h2⟩ := SM.opn_ok hx
  obtain ⟨h3, h4⟩ := SM.opn_ok hy
  have hne2 : y % 4294967296 ≠ x % 4294967296 := fun e => hne (by unfold TM.val; rw [e])
  refine ⟨?_, rfl⟩
  unfold SM.opn
  have e1 : (T.close x).s.ok (y % 4294967296) = true := by
    show (T.s.release (x % 4294967296)).ok (y % 4294967296) = true
    rw [SM.release_ok' h.s (by omega) h1 (by omega), if_neg hne2]; exact h3
  rw [e1]
  have e2 : (T.close x).s.hd (y % 4294967296) = y := h4
  rw [e2]; simp
/-- three versions, the second and the third with the first as their parent; the first and the third are released -/
theorem awake22 {xs1 xs2 xs3 xs4 xs5 : List VN} {q1 q2 : Nat} (i1 : GI xs1 q1 9 1) (i2 : GI xs2 q2 9 2)
    (a1 : AddP [] 9 0 [] xs1 1) (a2 : AddP xs1 9 1 [1] xs2 2) (a3 : AddP xs2 9 2 [1] xs3 3) (r : RelQ xs3 1 xs4) (r2 : RelQ xs4 3 xs5) :
    (∀ z, preG xs4 z = true ↔ z = 1 ∨ z = 2 ∨ z = 3) ∧ ∀ z, preG xs5 z = true ↔ z = 2 := by
  have o1 : okPs [] := by decide
  have o2 : okPs [1] := by decide
  have e1 : addE [] 9 [] = 0 := addE_ok o1 (fun _ h => by cases h) (by simp)
  obtain ⟨_, n1, b1, c1, d1, f1⟩ := a1.vw (fun _ h => by cases h) e1
  have hb1 : b1 = [1] := asc_ext c1 (List.pairwise_singleton _ _) fun z => by rw [d1]; simp [newAb]
  subst hb1
  have g1 : ∀ z, vw xs1 z = if z = 1 then some (true, [1]) else none := f1
  have e2 : addE xs1 9 [1] = 0 := addE_ok o2 (fun z hz => by
    rw [List.mem_singleton.1 hz, live_vw, g1]; rfl) (by rw [n1]; simp)
  obtain ⟨_, n2, b2, c2, d2, f2⟩ := a2.vw i1.le e2
  have hb2 : b2 = [1, 2] := asc_ext c2 (by unfold Asc; simp) fun z => by
    rw [d2]
    simp only [newAb, List.flatMap_cons, List.flatMap_nil, ab_vw, g1]
    simp [or_comm]
  subst hb2
  have g2 : ∀ z, vw xs2 z = if z = 2 then some (true, [1, 2]) else if z = 1 then some (true, [1]) else none := fun z => by rw [f2, g1]; rfl
  have e3 : addE xs2 9 [1] = 0 := addE_ok o2 (fun z hz => by
    rw [List.mem_singleton.1 hz, live_vw, g2]; rfl) (by rw [n2, n1]; simp)
  obtain ⟨_, n3, b3, c3, d3, f3⟩ := a3.vw i2.le e3
  have hb3 : b3 = [1, 3] := asc_ext c3 (by unfold Asc; simp) fun z => by
    rw [d3]
    simp only [newAb, List.flatMap_cons, List.flatMap_nil, ab_vw, g2]
    simp [or_comm]
  subst hb3
  have g3 : ∀ z, vw xs3 z = if z = 3 then some (true, [1, 3]) else if z = 2 then some (true, [1, 2]) else if z = 1 then some (true, [1]) else none := fun z => by rw [f3, g2]; rfl
  have hl : liveG xs3 1 = true := by rw [live_vw, g3]; rfl
  obtain ⟨_, ys, N, k1, k2, k3⟩ := Or.resolve_right r (fun h => by rw [hl] at h; cases h.1)
  have g5 : ∀ z, vw ys z = if z = 3 then some (true, [1, 3]) else if z = 2 then some (true, [1, 2]) else if z = 1 then some (false, [1]) else none := fun z => by
    rw [k1, dead, g3]
    by_cases h1 : z = 1
    · subst h1; rfl
    · rw [if_neg h1, if_neg h1, if_neg h1]
  have lv2 : liveG ys 2 = true := by rw [live_vw, g5]; rfl
  have lv3 : liveG ys 3 = true := by rw [live_vw, g5]; rfl
  have bs : baseG ys 2 3 = 1 := by rw [baseG, if_pos ⟨lv2, lv3⟩, ab_vw, ab_vw, g5, g5]; decide
  have N1 : N 1 = true := (k2 1).2 (.inr ⟨by decide, 2, 3, lv2, lv3, by decide, bs⟩)
  have N2 : N 2 = true := (k2 2).2 (.inl lv2)
  have N3 : N 3 = true := (k2 3).2 (.inl lv3)
  have g4 : ∀ z, vw xs4 z = if z = 3 then some (true, [1, 3]) else if z = 2 then some (true, [1, 2]) else if z = 1 then some (false, [1]) else none := fun z => by
    rw [k3, keep, g5]
    by_cases h3 : z = 3
    · subst h3; simp [N1, N3]
    · by_cases h2 : z = 2
      · subst h2; simp [N1, N2]
      · by_cases h1 : z = 1
        · subst h1; simp [N1]
        · simp [h1, h2, h3]
  refine ⟨fun z => ?_, fun z => ?_⟩
  · rw [pre_vw, g4]
    by_cases h3 : z = 3
    · simp [h3]
    · by_cases h2 : z = 2
      · simp [h2]
      · by_cases h1 : z = 1
        · simp [h1]
        · simp [h1, h2, h3]
  have hl3 : liveG xs4 3 = true := by rw [live_vw, g4]; rfl
  obtain ⟨_, zs, M, k4, k5, k6⟩ := Or.resolve_right r2 (fun h => by rw [hl3] at h; cases h.1)
  have g6 : ∀ z, vw zs z = if z = 3 then some (false, [1, 3]) else if z = 2 then some (true, [1, 2]) else if z = 1 then some (false, [1]) else none := fun z => by
    rw [k4, dead, g4]
    by_cases h1 : z = 3
    · subst h1; rfl
    · rw [if_neg h1, if_neg h1, if_neg h1]
  have hlz : ∀ z, liveG zs z = true ↔ z = 2 := fun z => by
    rw [live_vw, g6]
    by_cases h3 : z = 3
    · simp [h3]
    · by_cases h2 : z = 2
      · simp [h2]
      · by_cases h1 : z = 1
        · simp [h1]
        · simp [h1, h2, h3]
  have hM : ∀ z, M z = true ↔ z = 2 := fun z => by
    rw [k5 z]
    unfold needG
    constructor
    · rintro (h | ⟨_, x, y, hx, hy, hxy, _⟩)
      · exact (hlz z).1 h
      · have := (hlz x).1 hx; have := (hlz y).1 hy; omega
    · intro h; exact .inl ((hlz z).2 h)
  rw [pre_vw, k6, keep]
  by_cases h2 : z = 2
  · rw [if_pos ((hM z).2 h2), g6, h2]; simp
  · rw [if_neg (fun h => h2 ((hM z).1 h))]; simp [h2]
end Go.V

/-! ## Vep -/
namespace Go.V
open Go Go.RowKit

theorem VI.ar {V : VM} {A A2 : AM} {R R2 : List Int} (h : VI V A R) (hA : ARf A2 (V.rs.map RN.root ++ R2)) : VI V A2 R2 := ⟨h.t, h.g, h.k, h.pre, h.lv, h.inj, h.all, hA, h.cp⟩
theorem rel_single {xs xs2 : List VN} {n m : Int} (hR : RelQ xs n xs2) (hn : liveG xs n = true) (hl : ∀ z, liveG xs z = true → z = n ∨ z = m) (hm : liveG xs m = true) (hne : m ≠ n) : ∀ z, preG xs2 z = true ↔ z = m := by
  obtain ⟨_, xs1, N, e1, e2, e3⟩ := Or.resolve_right hR (fun h => by rw [hn] at h; cases h.1)
  have hlv : ∀ z, liveG xs1 z = true ↔ liveG xs z = true ∧ z ≠ n := fun z => by
    rw [live_vw, e1, live_vw]
    unfold dead
    by_cases e : z = n
    · rw [if_pos e]
      cases vw xs z <;> simp [e]
    · rw [if_neg e]; simp [e]
  have hone : ∀ z, liveG xs1 z = true ↔ z = m := fun z => by
    rw [hlv]
    constructor
    · rintro ⟨h1, h2⟩; exact (hl z h1).resolve_left h2
    · rintro rfl; exact ⟨hm, hne⟩
  have hN : ∀ z, N z = true ↔ z = m := fun z => by
    rw [e2]
    unfold needG
    constructor
    · rintro (h | ⟨_, x, y, hx, hy, hxy, _⟩)
      · exact (hone z).1 h
      · have := (hone x).1 hx; have := (hone y).1 hy; omega
    · intro h; exact .inl ((hone z).2 h)
  intro z
  rw [pre_vw, e3]
  unfold keep
  by_cases e : z = m
  · rw [if_pos ((hN z).2 e)]
    have h1 := (hone z).2 e
    rw [live_vw] at h1
    cases hv : vw xs1 z with
    | none => rw [hv] at h1; cases h1
    | some p => simp [e]
  · rw [if_neg (fun h => e ((hN z).1 h))]; simp [e]
theorem single_of {α : Type} {n : α → Int} {xs : List α} {a : α} (hu : xs.Pairwise fun x y => n x ≠ n y) (h : ∀ x, x ∈ xs ↔ x = a) : xs = [a] := by
  match xs, hu, h with
  | [], _, h => exact absurd ((h a).2 rfl) (by simp)
  | [x], _, h => rw [(h x).1 (by simp)]
  | x :: y :: t, hu, h =>
    have h1 := (h x).1 (by simp)
    have h2 := (h y).1 (by simp)
    have := (List.pairwise_cons.1 hu).1 y (by simp)
    rw [h1, h2] at this; exact absurd rfl this
theorem len_single {xs : List VN} {m : Int} (hu : VUq xs) (h : ∀ z, preG xs z = true ↔ z = m) : xs.length = 1 := by
  match xs, hu, h with
  | [], _, h => exact absurd ((h m).2 rfl) (by simp [preG, vfind])
  | [_], _, _ => rfl
  | x :: y :: t, hu, h =>
    have h1 := (h x.n).1 (pre_iff.2 ⟨x, by simp, rfl⟩)
    have h2 := (h y.n).1 (pre_iff.2 ⟨y, by simp, rfl⟩)
    have := (List.pairwise_cons.1 hu).1 y (by simp)
    rw [h1, h2] at this; exact absurd rfl this
/-- one version, its handle, its tree -/
structure FvS (V : VM) (A : AM) (hd root : Int) (t : Tr) : Prop where
  vi : VI V A []
  opn : V.T.s.opn hd = true
  rng : 0 ≤ hd ∧ hd ≤ 18446744073709551615
  val : V.T.val hd = V.last
  pre : ∀ z, preG V.xs z = true ↔ z = V.last
  free : V.T.s.free = 49
  cap : V.cap = 50
  rs : ∃ b, V.rs = [⟨V.last, root, b⟩]
  is : Is A t root
  ok : t.ok
  srt : Srt t.ls
  acap : A.s.used.length = 601
theorem FvS.len {V : VM} {A : AM} {hd root : Int} {t : Tr} (h : FvS V A hd root t) : V.xs.length = 1 := len_single h.vi.g.ok.uniq h.pre
theorem FvS.room {V : VM} {A : AM} {hd root : Int} {t : Tr} (h : FvS V A hd root t) : V.room = 49 := by
  have h1 := h.len; have h2 := h.vi.cp; have h3 := h.cap; have h4 := h.free
  unfold VM.room; omega
theorem FvS.root {V : VM} {A : AM} {hd root : Int} {t : Tr} (h : FvS V A hd root t) : V.rootOf (V.T.val hd) = root := by
  obtain ⟨b, hb⟩ := h.rs
  rw [h.val]
  exact VM.rootOf_at (V := V) h.vi.k.uniq (k := 0) (r := ⟨V.last, root, b⟩) (by rw [hb]; rfl)
theorem FvS.ref {V : VM} {A : AM} {hd root : Int} {t : Tr} (h : FvS V A hd root t) : ARf A [root] := by
  obtain ⟨b, hb⟩ := h.rs
  have := h.vi.ref
  rw [hb] at this; exact this
theorem FvS.used {V : VM} {A : AM} {hd root : Int} {t : Tr} (h : FvS V A hd root t) : A.s.cap = 600 ∧ A.s.cap - A.s.free = t.n := by
  have h1 := one_tree h.ref h.is h.srt
  have h2 : A.s.cap = (A.s.used.length : Int) - 1 := rfl
  have h3 := h.acap
  omega
end Go.V
