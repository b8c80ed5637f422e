/-
  Plain model of a store of versions: a version added, a version released.
  Conditions: none.
-/
import Derived.Test.YtlnlnebibgdjdaaVem
import Derived.Test.YtlnlnebibgdjdaaGx
namespace Go.V
open Go Go.RowKit

theorem AM.ret_eq {A : AM} {R : List Int} (h : ARf A R) {i : Int} (hi : i = 0 ∨ (1 ≤ i ∧ A.s.ok i = true)) (hl : R.length + 1 ≤ 1000000000) : ARf (A.ret i) (i :: R) ∧ A.retE i = 0 := by
  unfold AM.ret AM.retE
  rcases hi with e | ⟨h1, h2⟩
  · subst e; rw [if_neg (fun h => h.1 rfl), if_pos (.inl rfl)]; exact ⟨h.cons0 hl, rfl⟩
  · rw [if_pos ⟨by omega, h2⟩, if_pos (.inr h2)]; exact ⟨h.inc h2 (by omega) hl, rfl⟩
theorem Is.same {A B : AM} (hs : B.s = A.s) (hn : B.nodes = A.nodes) : ∀ (t : Tr) (i : Int), Is A t i → Is B t i := by
  refine fun t i h => Is.up (fun j _ hj => ⟨by rw [hs]; exact hj, ?_⟩) t i h
  unfold AM.nd; rw [hn]
theorem AM.ret_same (A : AM) (i : Int) : (A.ret i).s = A.s ∧ (A.ret i).nodes = A.nodes := by
  unfold AM.ret
  split <;> exact ⟨rfl, rfl⟩
theorem Is.ret {A : AM} {t : Tr} {j : Int} (i : Int) (h : Is A t j) : Is (A.ret i) t j := Is.same (A.ret_same i).1 (A.ret_same i).2 t j h
theorem Kp.ret (A : AM) (i : Int) (R : List Int) : Kp A (A.ret i) R := fun _ _ _ h => h.ret i
theorem TM.open_vl {T : TM} (h : TOk T) (hf : 0 < T.s.free) (v : Int) {i : Int} (hi : 0 ≤ i) : (T.open v).vl i = if i = T.s.next then v else T.vl i := by
  have hn := SM.next_rng h.s hf
  unfold TM.vl TM.open
  simp only
  rw [List.getElem?_set]
  by_cases e : i = T.s.next
  · subst e; rw [if_pos rfl, if_pos (by rw [h.vl]; exact hn.2.2.1), if_pos rfl]; rfl
  · rw [if_neg (by omega), if_neg e]
theorem TM.open_ok {T : TM} (h : TOk T) (hf : 0 < T.s.free) (v : Int) {i : Int} (hi : 0 ≤ i) : (T.open v).s.ok i = if i = T.s.next then true else T.s.ok i := SM.alloc_ok' h.s hf hi
theorem rs_len {V : VM} {A : AM} {R : List Int} (h : VI V A R) : V.rs.length ≤ V.xs.length := by
  have h1 := nd_le (l := V.rs.map RN.n) (m := V.xs.map VN.n) (List.pairwise_map.2 h.k.uniq) (fun z hz => by
    obtain ⟨r, hr, e⟩ := List.mem_map.1 hz
    obtain ⟨x, hx, e2⟩ := pre_iff.1 ((h.pre z).1 ⟨r, hr, e⟩)
    exact List.mem_map.2 ⟨x, hx, e2⟩)
  simpa using h1
def VM.add (V : VM) (xs2 : List VN) (q : Nat) (root : Int) : VM := ⟨V.T.open (V.last + 1), xs2, q, V.last + 1, V.rs ++ [⟨V.last + 1, root, V.q2⟩], V.q2 + 1, V.cap⟩
theorem VI.add {V : VM} {A : AM} {R : List Int} (h : VI V A R) {root : Int} (hr : root = 0 ∨ (1 ≤ root ∧ A.s.ok root = true)) {ps : List Int} {xs2 : List VN} {q : Nat} (h0 : addE V.xs V.cap ps = 0) (hA : AddP V.xs V.cap V.last ps xs2 (V.last + 1))
    (hG : GI xs2 q V.cap (V.last + 1)) (hf : 0 < V.T.s.free) (hla : V.last < 1000000000) (hlen : R.length ≤ 900000000) : VI (V.add xs2 q root) (A.ret root) R := by
  have hla0 := h.g.la
  have hle := rs_len h
  have hnum := hG.ok.num
  obtain ⟨_, _, hn, hlv, hpr, hxl⟩ := (AddP.facts h.g.le hA).resolve_left fun e => e.1 h0
  have hlast : ∀ z, preG V.xs z = true → z ≤ V.last := fun z hz => by
    obtain ⟨x, hx, e⟩ := pre_iff.1 hz
    have := h.g.le x hx; omega
  have hnx := SM.next_rng h.t.s hf
  have hlvl : ∀ i : Int, 0 ≤ i → V.T.s.ok i = true → V.T.vl i ≤ V.last := fun i h0 hi => hlast _ (live_pre (h.lv i h0 hi))
  refine ⟨h.t.open hf (by omega), hG, h.k.snoc rfl (fun y hy e => ?_) rfl (by show _ ≤ V.last + 1 ∧ V.last + 1 ≤ _; omega) (by omega), fun z => ?_, fun i hi ho => ?_, fun i j hi hj ho ho2 e => ?_, fun z hz => ?_, ?_, ?_⟩
  · have := hlast _ ((h.pre y.n).1 ⟨y, hy, rfl⟩)
    have e2 : y.n = V.last + 1 := e
    omega
  · show (∃ r ∈ V.rs ++ [_], r.n = z) ↔ preG xs2 z = true
    rw [hpr z, Bool.or_eq_true, ← h.pre z]
    constructor
    · rintro ⟨r, hr2, e⟩
      rcases List.mem_append.1 hr2 with hr2 | hr2
      · exact .inl ⟨r, hr2, e⟩
      · rw [List.mem_singleton.1 hr2] at e
        exact .inr (decide_eq_true e.symm)
    · rintro (⟨r, hr2, e⟩ | e)
      · exact ⟨r, List.mem_append_left _ hr2, e⟩
      · exact ⟨_, List.mem_append_right _ (List.mem_singleton.2 rfl), (of_decide_eq_true e).symm⟩
  · show liveG xs2 ((V.T.open (V.last + 1)).vl i) = true
    rw [TM.open_vl h.t hf _ hi, hlv]
    rw [show (V.add xs2 q root).T.s.ok i = _ from TM.open_ok h.t hf _ hi] at ho
    by_cases e : i = V.T.s.next
    · rw [if_pos e]; simp
    · rw [if_neg e] at ho ⊢
      rw [h.lv i hi ho, Bool.true_or]
  · rw [show (V.add xs2 q root).T.s.ok i = _ from TM.open_ok h.t hf _ hi] at ho
    rw [show (V.add xs2 q root).T.s.ok j = _ from TM.open_ok h.t hf _ hj] at ho2
    rw [show (V.add xs2 q root).T.vl i = _ from TM.open_vl h.t hf _ hi, show (V.add xs2 q root).T.vl j = _ from TM.open_vl h.t hf _ hj] at e
    by_cases e1 : i = V.T.s.next
    · by_cases e2 : j = V.T.s.next
      · rw [e1, e2]
      · rw [if_neg e2] at ho2
        rw [if_pos e1, if_neg e2] at e
        have := hlvl j hj ho2; omega
    · rw [if_neg e1] at ho
      by_cases e2 : j = V.T.s.next
      · rw [if_neg e1, if_pos e2] at e
        have := hlvl i hi ho; omega
      · rw [if_neg e2] at ho2
        rw [if_neg e1, if_neg e2] at e
        exact h.inj i j hi hj ho ho2 e
  · have hz2 : (liveG V.xs z || decide (z = V.last + 1)) = true := by rw [← hlv z]; exact hz
    rcases Bool.or_eq_true_iff.1 hz2 with hz2 | hz2
    · obtain ⟨i, h1, h2, h3⟩ := h.all z hz2
      have hne : i ≠ V.T.s.next := fun e => by rw [e, hnx.2.2.2] at h2; cases h2
      exact ⟨i, h1, by rw [show (V.add xs2 q root).T.s.ok i = _ from TM.open_ok h.t hf _ h1, if_neg hne]; exact h2, by rw [show (V.add xs2 q root).T.vl i = _ from TM.open_vl h.t hf _ h1, if_neg hne]; exact h3⟩
    · have h1 : 0 ≤ V.T.s.next := by omega
      exact ⟨V.T.s.next, h1, by rw [show (V.add xs2 q root).T.s.ok _ = _ from TM.open_ok h.t hf _ h1, if_pos rfl], by rw [show (V.add xs2 q root).T.vl _ = _ from TM.open_vl h.t hf _ h1, if_pos rfl]; exact (of_decide_eq_true hz2).symm⟩
  · have h1 := (AM.ret_eq h.ref hr (by rw [List.length_append, List.length_map]; omega)).1
    refine h1.perm ?_
    show (root :: (V.rs.map RN.root ++ R)).Perm ((V.rs ++ [(⟨V.last + 1, root, V.q2⟩ : RN)]).map RN.root ++ R)
    rw [List.map_append]
    simpa using (List.perm_middle (a := root) (l₁ := V.rs.map RN.root) (l₂ := R)).symm
  · show (V.T.s.alloc).cap = V.cap
    rw [← h.cp]
    unfold SM.cap SM.alloc; simp
theorem root_ok {V : VM} {A : AM} {R : List Int} (h : VI V A R) {x : Int} (ho : V.T.s.opn x = true) : V.rootOf (V.T.val x) = 0 ∨ (1 ≤ V.rootOf (V.T.val x) ∧ A.s.ok (V.rootOf (V.T.val x)) = true) := by
  obtain ⟨_, k, r, hk, hn⟩ := VM.open_val h ho
  rw [← hn, VM.rootOf_at h.k.uniq hk]
  exact h.ref.ref _ (List.mem_append_left _ (List.mem_map.2 ⟨r, List.mem_of_getElem? hk, rfl⟩))
theorem open_inj {V : VM} {A : AM} {R : List Int} (h : VI V A R) {x y : Int} (hx : V.T.s.opn x = true) (hy : V.T.s.opn y = true) (e : V.T.val x = V.T.val y) : x = y := by
  obtain ⟨h1, h2⟩ := SM.opn_ok hx
  obtain ⟨h3, h4⟩ := SM.opn_ok hy
  have := h.inj (x % 4294967296) (y % 4294967296) (by omega) (by omega) h1 h3 e
  rw [← h2, ← h4, this]
theorem okPs_map {V : VM} {A : AM} {R : List Int} (h : VI V A R) {hs : List Int} (hp : okPs hs) (ho : ∀ x ∈ hs, V.T.s.opn x = true) : okPs (hs.map V.T.val) := by
  refine ⟨by simpa using hp.1, fun x y e => ?_⟩
  match hs, hp, ho, e with
  | [u, v], hp, ho, e =>
    simp only [List.map_cons, List.map_nil, List.cons.injEq, and_true] at e
    obtain ⟨e1, e2⟩ := e
    intro e3
    exact hp.2 u v rfl (open_inj h (ho u (by simp)) (ho v (by simp)) (by rw [e1, e2]; exact e3))
theorem room_pos {V : VM} {A : AM} {R : List Int} (h : VI V A R) (hr : 0 < V.room) : (V.xs.length : Int) < V.cap ∧ 0 < V.T.s.free := by
  have := h.cp
  unfold VM.room at hr
  omega
theorem addE_room {V : VM} {A : AM} {R : List Int} (h : VI V A R) {hs : List Int} (hp : okPs hs) (ho : ∀ x ∈ hs, V.T.s.opn x = true) (hr : 0 < V.room) : addE V.xs V.cap (hs.map V.T.val) = 0 := by
  refine addE_ok (okPs_map h hp ho) (fun z hz => ?_) (by have := (room_pos h hr).1; omega)
  obtain ⟨x, hx, rfl⟩ := List.mem_map.1 hz
  exact (VM.open_val h (ho x hx)).1
end Go.V
