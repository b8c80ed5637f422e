/-
  Plain model of an arena: a node made; trees in an arena; what an operation on trees does.
  Conditions: none.
-/
import Derived.Test.YtlnlnebibgdjdaaAro
import Derived.Test.YtlnlnebibgdjdaaTt
namespace Go.V
open Go Go.RowKit

def AM.put (A : AM) (n : Nd) : AM := ⟨A.s.alloc, A.nodes.set A.s.next.toNat n, A.cnt.set A.s.next.toNat 1⟩
def AM.make (A : AM) (n : Nd) : AM := ((A.put n).inc n.lf).inc n.rg
theorem AM.inc_cnt {A : AM} {k j : Int} (hk : k.toNat < A.cnt.length) (h0 : 0 ≤ k) (hj : 0 ≤ j) : (A.inc k).cntOf j = if j = k then IntKind.i64.wrap (A.cntOf k + 1) else A.cntOf j := AM.cnt_set hk h0 hj
theorem ARf.rng {A : AM} {R : List Int} (h : ARf A R) {r : Int} (hr : r ∈ R) : 0 ≤ r ∧ r < 4294967296 ∧ r ≤ 65536 := by
  rcases h.ref r hr with e | ⟨h1, h2⟩
  · omega
  · have h3 := SM.ok_rng h.s (by omega) h2
    have h4 := h.s.cap
    have h5 : A.s.cap = (A.s.used.length : Int) - 1 := rfl
    omega
theorem ARf.okrng {A : AM} {R : List Int} (h : ARf A R) {c : Int} (hc : c = 0 ∨ (1 ≤ c ∧ A.s.ok c = true)) : 0 ≤ c ∧ c ≤ 65536 ∧ c.toNat < A.s.used.length := by
  have h4 := h.s.cap
  have h5 : A.s.cap = (A.s.used.length : Int) - 1 := rfl
  rcases hc with e | ⟨h1, h2⟩
  · subst e; exact ⟨by omega, by omega, by show 0 < _; omega⟩
  · have h3 := SM.ok_rng h.s (by omega) h2
    omega
theorem ARf.make {A : AM} {R : List Int} {n : Nd} (h : ARf A R) (hf : 0 < A.s.free) (hl : n.lf = 0 ∨ (1 ≤ n.lf ∧ A.s.ok n.lf = true)) (hr : n.rg = 0 ∨ (1 ≤ n.rg ∧ A.s.ok n.rg = true))
    (hs : n.size = 1 + A.sz n.lf + A.sz n.rg ∧ n.size ≤ 2147483647) (hp : 1 ≤ n.size) (hlen : R.length + 1 ≤ 1000000000) : ARf (A.make n) (A.s.next :: R) := by
  have hn := SM.next_rng h.s hf
  have hno : A.s.ok A.s.next = false := hn.2.2.2
  have hok : ∀ j, 0 ≤ j → (A.make n).s.ok j = if j = A.s.next then true else A.s.ok j := fun j hj => SM.alloc_ok' h.s hf hj
  have hnl : A.s.next.toNat < A.nodes.length := by rw [h.nl]; exact hn.2.2.1
  have hcl : A.s.next.toNat < A.cnt.length := by rw [h.cl]; exact hn.2.2.1
  have hnd : ∀ j, 0 ≤ j → (A.make n).nd j = if j = A.s.next then n else A.nd j := fun j hj => AM.nd_set hnl (by omega) hj
  have hne : ∀ c, (c = 0 ∨ (1 ≤ c ∧ A.s.ok c = true)) → c ≠ A.s.next := fun c hc e => by
    rcases hc with e2 | ⟨_, h2⟩
    · omega
    · rw [e, hno] at h2; cases h2
  have hup : ∀ c, (c = 0 ∨ (1 ≤ c ∧ A.s.ok c = true)) → (c = 0 ∨ (1 ≤ c ∧ (A.make n).s.ok c = true)) := fun c hc => by
    have h1 := hne c hc
    rcases hc with e2 | ⟨h3, h2⟩
    · exact .inl e2
    · exact .inr ⟨h3, by rw [hok c (by omega), if_neg h1]; exact h2⟩
  have hsz : ∀ c, (c = 0 ∨ (1 ≤ c ∧ A.s.ok c = true)) → (A.make n).sz c = A.sz c := fun c hc => by
    have h1 := hne c hc
    have h0 : 0 ≤ c := by omega
    unfold AM.sz
    rw [hok c h0, if_neg h1, hnd c h0, if_neg h1]
  have hkp : (A.make n).kids.Perm ([n.lf, n.rg] ++ A.kids) := by
    have h1 := kids_perm (A := A.make n) (B := A) (k := A.s.next) (by rw [hok _ (by omega), if_pos rfl]) (by omega) (fun j hj => by
      rw [hok j hj]
      by_cases e : j = A.s.next
      · subst e; rw [if_pos rfl]; exact hno
      · rw [if_neg e, if_neg e]) (fun j hj e => by rw [hnd j hj, if_neg e])
    rw [hnd _ (by omega), if_pos rfl] at h1
    exact h1
  have hlr := h.okrng hl
  have hrr := h.okrng hr
  have hcnt : ∀ j, 1 ≤ j → (j = A.s.next ∨ A.s.ok j = true) → (A.make n).cntOf j = if j = A.s.next then 1 else A.cntOf j + (if j = n.lf then 1 else 0) + (if j = n.rg then 1 else 0) := fun j hj hjo => by
    have hpl : (A.put n).cnt.length = A.cnt.length := by simp [AM.put]
    have hpl2 : ((A.put n).inc n.lf).cnt.length = A.cnt.length := by simp [AM.inc, AM.put]
    have e1 : (A.make n).cntOf j = if j = n.rg then IntKind.i64.wrap (((A.put n).inc n.lf).cntOf n.rg + 1) else ((A.put n).inc n.lf).cntOf j := AM.inc_cnt (by rw [hpl2, h.cl]; exact hrr.2.2) hrr.1 (by omega)
    have e2 : ∀ x, 0 ≤ x → ((A.put n).inc n.lf).cntOf x = if x = n.lf then IntKind.i64.wrap ((A.put n).cntOf n.lf + 1) else (A.put n).cntOf x := fun x hx => AM.inc_cnt (by rw [hpl, h.cl]; exact hlr.2.2) hlr.1 hx
    have e3 : ∀ x, 0 ≤ x → (A.put n).cntOf x = if x = A.s.next then 1 else A.cntOf x := fun x hx => AM.cnt_set hcl (by omega) hx
    by_cases hj2 : j = A.s.next
    · rw [if_pos hj2, e1, if_neg (fun e => hne _ hr (by rw [← e]; exact hj2)), e2 j (by omega), if_neg (fun e => hne _ hl (by rw [← e]; exact hj2)), e3 j (by omega), if_pos hj2]
    · have hjo := hjo.resolve_left hj2
      have hb := h.cnt_le hjo (by omega)
      rw [if_neg hj2, e1]
      have e4 : ((A.put n).inc n.lf).cntOf j = A.cntOf j + (if j = n.lf then 1 else 0) := by
        rw [e2 j (by omega)]
        by_cases e : j = n.lf
        · rw [if_pos e, if_pos e, ← e, e3 j (by omega), if_neg hj2, w64 (by omega)]
        · rw [if_neg e, if_neg e, e3 j (by omega), if_neg hj2]; omega
      by_cases e : j = n.rg
      · rw [if_pos e, if_pos e, ← e, e4, w64 (by split <;> omega)]
      · rw [if_neg e, if_neg e, e4]; omega
  refine ⟨⟨SM.alloc_sok h.s hf, ?_, ?_⟩, fun i hi hi0 c hc => ?_, fun i hi hi0 => ?_, fun i hi hi0 => ?_, fun r hr2 => ?_, fun i hi hi0 => ?_, fun i hi hi1 => ?_, by simpa using hlen⟩
  · show (A.nodes.set _ _).length = (A.s.used.set _ _).length
    rw [List.length_set, List.length_set]; exact h.nl
  · show (((A.cnt.set _ _).set _ _).set _ _).length = (A.s.used.set _ _).length
    rw [List.length_set, List.length_set, List.length_set, List.length_set]; exact h.cl
  · rw [hnd i hi0] at hc
    by_cases e : i = A.s.next
    · rw [if_pos e] at hc
      rcases hc with hc | hc <;> rw [hc]
      · exact hup _ hl
      · exact hup _ hr
    · rw [if_neg e] at hc
      rw [hok i hi0, if_neg e] at hi
      exact hup _ (h.kid i hi hi0 c hc)
  · rw [hnd i hi0]
    by_cases e : i = A.s.next
    · rw [if_pos e, hsz _ hl, hsz _ hr]; exact hs
    · rw [if_neg e]
      rw [hok i hi0, if_neg e] at hi
      rw [hsz _ (h.kid i hi hi0 _ (.inl rfl)), hsz _ (h.kid i hi hi0 _ (.inr rfl))]
      exact h.sz i hi hi0
  · rw [hnd i hi0]
    by_cases e : i = A.s.next
    · rw [if_pos e]; exact hp
    · rw [if_neg e]
      rw [hok i hi0, if_neg e] at hi
      exact h.pos i hi hi0
  · rcases List.mem_cons.1 hr2 with e | hr2
    · rw [e]; exact .inr ⟨hn.1, by rw [hok _ (by omega), if_pos rfl]⟩
    · exact hup _ (h.ref r hr2)
  · have h1 : 1 ≤ i := by
      rcases Int.lt_or_le i 1 with h1 | h1
      · have : i = 0 := by omega
        subst this
        rw [hok 0 (by omega), if_neg (by omega), h.s.u0] at hi; cases hi
      · exact h1
    rw [hok i hi0] at hi
    have hp2 : (A.s.next :: R ++ (A.make n).kids).count i = (A.s.next :: (R ++ ([n.lf, n.rg] ++ A.kids))).count i := by
      rw [List.cons_append]
      exact (List.Perm.cons _ (List.Perm.append_left R hkp)).count_eq i
    rw [hp2]
    by_cases e : i = A.s.next
    · rw [hcnt i h1 (.inl e), if_pos e, e, List.count_cons_self, List.count_append, List.count_append]
      have c1 : R.count A.s.next = 0 := List.count_eq_zero.2 fun hm => hne _ (h.ref _ hm) rfl
      have c2 : [n.lf, n.rg].count A.s.next = 0 := List.count_eq_zero.2 fun hm => by
        rcases List.mem_cons.1 hm with e2 | hm
        · exact hne _ hl e2.symm
        · exact hne _ hr (List.mem_singleton.1 hm).symm
      have c3 : A.kids.count A.s.next = 0 := List.count_eq_zero.2 fun hm => by
        obtain ⟨j, j0, j1, jc⟩ := (A.mem_kids _).1 hm
        exact hne _ (h.kid j j1 j0 _ jc) rfl
      omega
    · rw [if_neg e] at hi
      have hc2 := h.cnt i hi hi0
      have hb := h.cnt_le hi hi0
      rw [List.count_append] at hc2
      rw [hcnt i h1 (.inr hi), if_neg e, List.count_cons_of_ne (fun h => e h.symm), List.count_append, List.count_append]
      have c2 : ([n.lf, n.rg].count i : Nat) = (if i = n.lf then 1 else 0) + (if i = n.rg then 1 else 0) := by
        rw [List.count_cons, List.count_cons, List.count_nil]
        have q1 : (n.lf == i) = decide (i = n.lf) := by rw [Bool.eq_iff_iff, beq_iff_eq, decide_eq_true_eq]; exact ⟨Eq.symm, Eq.symm⟩
        have q2 : (n.rg == i) = decide (i = n.rg) := by rw [Bool.eq_iff_iff, beq_iff_eq, decide_eq_true_eq]; exact ⟨Eq.symm, Eq.symm⟩
        rw [q1, q2]
        simp only [decide_eq_true_eq]
        omega
      rw [c2]
      split <;> split <;> omega
  · rw [hnd i (by omega)]
    rw [hok i (by omega)] at hi
    by_cases e : i = A.s.next
    · rw [if_pos e] at hi; cases hi
    · rw [if_neg e] at hi ⊢
      exact h.zero i hi hi1
theorem SOk.free_rng {S : SM} (h : SOk S) : 0 ≤ S.free ∧ S.free ≤ 131072 := by
  have h1 := h.rle; have h2 := h.cap; have h3 := h.fr; have h4 : S.cap = (S.used.length : Int) - 1 := rfl
  unfold SM.free; omega
/-- what is not free is allocated -/
theorem AM.cnt_live {A : AM} (h : SOk A.s) : A.s.free + A.live.length = A.s.cap := by
  have hc : A.s.cap = (A.s.used.length : Int) - 1 := rfl
  have hcp := h.cap
  have hfr := h.fr
  have hp : ((List.range A.s.cap.toNat).map fun i : Nat => (i : Int) + 1).Perm (A.live ++ (A.s.rel ++ (List.range (A.s.cap - A.s.fresh).toNat).map fun i : Nat => A.s.fresh + 1 + (i : Int))) := by
    refine (List.perm_ext_iff_of_nodup ?_ ?_).2 fun j => ?_
    · exact List.pairwise_map.2 ((List.nodup_range).imp fun h e => h (by omega))
    · refine List.nodup_append.2 ⟨A.live_nodup, List.nodup_append.2 ⟨h.nd, List.pairwise_map.2 ((List.nodup_range).imp fun h e => h (by omega)), fun a ha b hb e => ?_⟩, fun a ha b hb e => ?_⟩
      · have h1 := h.rm a ha
        obtain ⟨i, _, rfl⟩ := List.mem_map.1 hb
        omega
      · have h1 := (A.mem_live a).1 ha
        rcases List.mem_append.1 hb with hb | hb
        · have h2 := (h.rm b hb).2.2
          rw [← e, h1.2] at h2; cases h2
        · obtain ⟨i, _, e2⟩ := List.mem_map.1 hb
          have h2 := h.hi a (by omega)
          rw [h1.2] at h2; cases h2
    · rw [List.mem_append, List.mem_append, A.mem_live, List.mem_map, List.mem_map]
      constructor
      · rintro ⟨i, hi, rfl⟩
        have hi := List.mem_range.1 hi
        by_cases ho : A.s.ok ((i : Int) + 1) = true
        · exact .inl ⟨by omega, ho⟩
        · right
          by_cases hf : (i : Int) + 1 ≤ A.s.fresh
          · exact .inl (h.cov _ (by omega) hf (by simpa using ho))
          · exact .inr ⟨((i : Int) - A.s.fresh).toNat, List.mem_range.2 (by omega), by omega⟩
      · rintro (⟨h0, h1⟩ | h1 | ⟨i, hi, rfl⟩)
        · have h2 := SM.ok_rng h h0 h1
          exact ⟨(j - 1).toNat, List.mem_range.2 (by omega), by omega⟩
        · have h2 := h.rm j h1
          exact ⟨(j - 1).toNat, List.mem_range.2 (by omega), by omega⟩
        · have hi := List.mem_range.1 hi
          exact ⟨(A.s.fresh + i).toNat, List.mem_range.2 (by omega), by omega⟩
  have h1 := hp.length_eq
  simp only [List.length_map, List.length_range, List.length_append] at h1
  unfold SM.free
  omega
theorem live_sub {A B : AM} (h : ∀ j, 0 ≤ j → B.s.ok j = true → A.s.ok j = true) : B.live.length ≤ A.live.length := by
  have hh : ∀ {l m : List Int}, l.Nodup → (∀ z ∈ l, z ∈ m) → l.length ≤ m.length := by
    intro l
    induction l with
    | nil => intro m _ _; exact Nat.zero_le _
    | cons x t ih =>
      intro m hn hs
      obtain ⟨h1, h2⟩ := List.nodup_cons.1 hn
      have h3 : x ∈ m := hs x (List.mem_cons_self ..)
      have h4 := ih (m := m.erase x) h2 (fun z hz => (List.mem_erase_of_ne (fun e => h1 (by rw [← e]; exact hz))).2 (hs z (List.mem_cons_of_mem _ hz)))
      rw [List.length_erase_of_mem h3] at h4
      have := List.length_pos_of_mem h3
      simp; omega
  exact hh B.live_nodup fun z hz => by
    have := (B.mem_live z).1 hz
    exact (A.mem_live z).2 ⟨this.1, h z this.1 this.2⟩
/-! ### the node that is made -/
def lrOf (l r : Int) (k : Nat) : Int := if k = 0 then l else r
theorem lr_at {l r : Int} {k : Nat} (h : k < 2) : (#[.int .u32 l, .int .u32 r] : Array Value)[k]? = some (.int .u32 (lrOf l r k)) := by
  match k, h with
  | 0, _ => rfl
  | 1, _ => rfl
def ndAdd (n x : Nd) : Nd := ⟨n.key, n.val, n.lf, n.rg, n.size + x.size, IntKind.i64.wrap (n.sum + x.sum), min n.mn x.mn, max n.mx x.mx⟩
def accN (A : AM) (l r : Int) (n : Nd) : Nat → Nd
  | 0 => n
  | k + 1 => if lrOf l r k = 0 then accN A l r n k else ndAdd (accN A l r n k) (A.nd (lrOf l r k))
def ndBase (key val l r : Int) : Nd := ⟨key, val, l, r, 1, val, val, val⟩
def AM.nodeOf (A : AM) (key val l r : Int) : Nd := accN A l r (ndBase key val l r) 2
theorem accN_lf (A : AM) (l r : Int) (n : Nd) : ∀ k, (accN A l r n k).lf = n.lf ∧ (accN A l r n k).rg = n.rg ∧ (accN A l r n k).key = n.key ∧ (accN A l r n k).val = n.val
  | 0 => ⟨rfl, rfl, rfl, rfl⟩
  | k + 1 => by
    unfold accN
    split
    · exact accN_lf A l r n k
    · exact accN_lf A l r n k
/-- children that may be taken -/
structure Kd (A : AM) (l r : Int) : Prop where
  cl : l = 0 ∨ (1 ≤ l ∧ A.s.ok l = true)
  cr : r = 0 ∨ (1 ≤ r ∧ A.s.ok r = true)
  lz : 0 ≤ A.sz l
  rz : 0 ≤ A.sz r
  z : 1 + A.sz l + A.sz r ≤ 2147483647
theorem sz_0 {A : AM} (h : SOk A.s) : A.sz 0 = 0 := by unfold AM.sz; rw [h.u0]; rfl
theorem sz_ok {A : AM} {c : Int} (h : A.s.ok c = true) : A.sz c = (A.nd c).size := by unfold AM.sz; rw [if_pos h]
theorem Kd.at_ {A : AM} {l r : Int} (h : Kd A l r) (k : Nat) : (lrOf l r k = 0 ∨ (1 ≤ lrOf l r k ∧ A.s.ok (lrOf l r k) = true)) ∧ 0 ≤ A.sz (lrOf l r k) := by
  unfold lrOf
  split
  · exact ⟨h.cl, h.lz⟩
  · exact ⟨h.cr, h.rz⟩
theorem accN_sz {A : AM} (hA : AWf A) {l r : Int} (h : Kd A l r) (n : Nd) (k : Nat) : (accN A l r n (k + 1)).size = (accN A l r n k).size + A.sz (lrOf l r k) := by
  rw [accN]
  split
  · rename_i e; rw [e, sz_0 hA.s]; omega
  · rename_i e; rw [sz_ok ((h.at_ k).1.resolve_left e).2]; rfl
theorem nodeOf_sz {A : AM} (hA : AWf A) {key val l r : Int} (h : Kd A l r) : (A.nodeOf key val l r).size = 1 + A.sz l + A.sz r := by
  unfold AM.nodeOf
  rw [accN_sz hA h, accN_sz hA h]; rfl
theorem accN_le {A : AM} (hA : AWf A) {key val l r : Int} (h : Kd A l r) {k : Nat} (hk : k < 2) : 1 ≤ (accN A l r (ndBase key val l r) k).size ∧ (accN A l r (ndBase key val l r) k).size + A.sz (lrOf l r k) ≤ 2147483647 := by
  have h1 := h.lz; have h2 := h.rz; have h3 := h.z
  match k, hk with
  | 0, _ => exact ⟨by simp [accN, ndBase], by show 1 + A.sz l ≤ _; omega⟩
  | 1, _ =>
    rw [accN_sz hA h]
    exact ⟨by show 1 ≤ 1 + A.sz l; omega, by show 1 + A.sz l + A.sz r ≤ _; omega⟩
theorem okrng0 {A : AM} (h : AWf A) {c : Int} (hc : c = 0 ∨ (1 ≤ c ∧ A.s.ok c = true)) : 0 ≤ c ∧ c ≤ 65536 ∧ c.toNat < A.s.used.length := by
  have h4 := h.s.cap
  have h5 : A.s.cap = (A.s.used.length : Int) - 1 := rfl
  rcases hc with e | ⟨h1, h2⟩
  · subst e; exact ⟨by omega, by omega, by show 0 < _; omega⟩
  · have h3 := SM.ok_rng h.s (by omega) h2
    omega
theorem make_eq {A : AM} {n : Nd} {l r z2 z3 : Int} (h2 : (A.cnt.set A.s.next.toNat 1)[l.toNat]? = some z2) (h3 : ((A.cnt.set A.s.next.toNat 1).set l.toNat (IntKind.i64.wrap (z2 + 1)))[r.toNat]? = some z3) (hl : n.lf = l) (hr : n.rg = r) :
    A.make n = AM.mk A.s.alloc (A.nodes.set A.s.next.toNat n) (((A.cnt.set A.s.next.toNat 1).set l.toNat (IntKind.i64.wrap (z2 + 1))).set r.toNat (IntKind.i64.wrap (z3 + 1))) := by
  subst hl; subst hr
  have e1 : (A.put n).cntOf n.lf = z2 := by unfold AM.cntOf; show ((A.cnt.set A.s.next.toNat 1)[n.lf.toNat]?).getD 0 = z2; rw [h2]; rfl
  have e2 : (A.put n).inc n.lf = AM.mk A.s.alloc (A.nodes.set A.s.next.toNat n) ((A.cnt.set A.s.next.toNat 1).set n.lf.toNat (IntKind.i64.wrap (z2 + 1))) := by unfold AM.inc; rw [e1]; rfl
  unfold AM.make
  rw [e2]
  unfold AM.inc AM.cntOf
  simp only
  rw [h3]; rfl
/-! ### trees -/
/-- index i is the root of tree t -/
def Is (A : AM) : Tr → Int → Prop
  | .nil, i => i = 0
  | .node l k v r, i => 1 ≤ i ∧ A.s.ok i = true ∧ (A.nd i).key = k ∧ (A.nd i).val = v ∧ Is A l (A.nd i).lf ∧ Is A r (A.nd i).rg
theorem Is.sz {A : AM} {R : List Int} (h : ARf A R) : ∀ (t : Tr) (i : Int), Is A t i → A.sz i = t.n
  | .nil, i, hi => by
    have : i = 0 := hi
    subst this
    unfold AM.sz
    rw [h.s.u0]; rfl
  | .node l k v r, i, ⟨h1, h2, _, _, h5, h6⟩ => by
    have hs := (h.sz i h2 (by omega)).1
    rw [Is.sz h l _ h5, Is.sz h r _ h6] at hs
    unfold AM.sz
    rw [if_pos h2, hs]; simp only [Tr.n]; omega
theorem Is.ref {A : AM} : ∀ {t : Tr} {i : Int}, Is A t i → i = 0 ∨ (1 ≤ i ∧ A.s.ok i = true)
  | .nil, _, h => .inl h
  | .node _ _ _ _, _, h => .inr ⟨h.1, h.2.1⟩
theorem Is.nil_iff {A : AM} {t : Tr} {i : Int} (h : Is A t i) : i = 0 ↔ t = .nil := by
  cases t with
  | nil => exact ⟨fun _ => rfl, fun _ => h⟩
  | node => exact ⟨fun e => absurd h.1 (by omega), fun e => by cases e⟩
/-- every root that is referred to has a tree -/
theorem ARf.tree {A : AM} {R : List Int} (h : ARf A R) : ∀ (m : Nat) (i : Int), (i = 0 ∨ (1 ≤ i ∧ A.s.ok i = true)) → A.sz i ≤ m → ∃ t, Is A t i
  | m, i, hi, hm => by
    induction m using Nat.strongRecOn generalizing i with
    | _ m ih =>
      rcases hi with e | ⟨h1, h2⟩
      · exact ⟨.nil, e⟩
      · have hs := (h.sz i h2 (by omega)).1
        have hp := h.pos i h2 (by omega)
        have e : A.sz i = (A.nd i).size := by unfold AM.sz; rw [if_pos h2]
        have hk := fun c hc => h.kid i h2 (by omega) c hc
        have hn : ∀ c, (c = 0 ∨ (1 ≤ c ∧ A.s.ok c = true)) → 0 ≤ A.sz c := fun c hc => by
          rcases hc with e | ⟨c1, c2⟩
          · subst e; unfold AM.sz; rw [h.s.u0]; exact Int.le_refl _
          · have := h.pos c c2 (by omega); unfold AM.sz; rw [if_pos c2]; omega
        have hl := hn _ (hk _ (.inl rfl))
        have hr := hn _ (hk _ (.inr rfl))
        obtain ⟨l, il⟩ := ih (m - 1) (by omega) _ (hk _ (.inl rfl)) (by omega)
        obtain ⟨r, ir⟩ := ih (m - 1) (by omega) _ (hk _ (.inr rfl)) (by omega)
        exact ⟨.node l _ _ r, h1, h2, rfl, rfl, il, ir⟩
/-- the trees at these roots are kept -/
def Kp (A B : AM) (R : List Int) : Prop := ∀ r ∈ R, ∀ t, Is A t r → Is B t r
theorem Kp.refl (A : AM) (R : List Int) : Kp A A R := fun _ _ _ h => h
theorem Kp.trans {A B C : AM} {R : List Int} (h : Kp A B R) (k : Kp B C R) : Kp A C R := fun r hr t ht => k r hr t (h r hr t ht)
theorem Kp.sub {A B : AM} {R R' : List Int} (h : Kp A B R) (hs : ∀ r ∈ R', r ∈ R) : Kp A B R' := fun r hr t ht => h r (hs r hr) t ht
theorem Kp.cons {A B : AM} {R : List Int} {x : Int} (h : Kp A B (x :: R)) : Kp A B R := h.sub fun _ hr => List.mem_cons_of_mem _ hr
/-- what stays allocated has its node -/
theorem Is.mono {A B : AM} {RB : List Int} (hB : ARf B RB) (h : ∀ j, 0 ≤ j → B.s.ok j = true → B.nd j = A.nd j) : ∀ (t : Tr) (i : Int), Is A t i → (i = 0 ∨ B.s.ok i = true) → Is B t i
  | .nil, _, hi, _ => hi
  | .node l k v r, i, ⟨h1, h2, h3, h4, h5, h6⟩, hb => by
    have hb : B.s.ok i = true := hb.resolve_left (by omega)
    have hk := fun c hc => hB.kid i hb (by omega) c hc
    have e := h i (by omega) hb
    refine ⟨h1, hb, by rw [e]; exact h3, by rw [e]; exact h4, ?_, ?_⟩
    · rw [e]; exact Is.mono hB h l _ h5 ((hk _ (.inl (by rw [e]))).imp id (·.2))
    · rw [e]; exact Is.mono hB h r _ h6 ((hk _ (.inr (by rw [e]))).imp id (·.2))
theorem Is.up {A B : AM} (h : ∀ j, 1 ≤ j → A.s.ok j = true → B.s.ok j = true ∧ B.nd j = A.nd j) : ∀ (t : Tr) (i : Int), Is A t i → Is B t i
  | .nil, _, hi => hi
  | .node l k v r, i, ⟨h1, h2, h3, h4, h5, h6⟩ => by
    obtain ⟨hb, e⟩ := h i h1 h2
    refine ⟨h1, hb, by rw [e]; exact h3, by rw [e]; exact h4, ?_, ?_⟩
    · rw [e]; exact Is.up h l _ h5
    · rw [e]; exact Is.up h r _ h6
/-- what an operation on trees did: result i with tree t; c nodes were made at most -/
structure Op (A B : AM) (R : List Int) (i : Int) (t : Tr) (c : Nat) : Prop where
  ref : ARf B (i :: R)
  is : Is B t i
  kp : Kp A B R
  fr : A.s.free ≤ B.s.free + c
  cap : B.s.used.length = A.s.used.length
theorem Op.rng {A B : AM} {R : List Int} {i : Int} {t : Tr} {c : Nat} (h : Op A B R i t c) : 0 ≤ i ∧ i < 4294967296 := ⟨(h.ref.rng (List.mem_cons_self ..)).1, (h.ref.rng (List.mem_cons_self ..)).2.1⟩
theorem ARf.refl {A : AM} {R : List Int} {i : Int} {t : Tr} (h : ARf A (i :: R)) (hi : Is A t i) : Op A A R i t 0 := ⟨h, hi, Kp.refl _ _, by omega, rfl⟩
theorem Op.trans {A B C : AM} {R R' : List Int} {i j : Int} {t u : Tr} {c d : Nat} (h : Op A B R' i t c) (k : Op B C R j u d) (hs : ∀ r ∈ R, r ∈ R') : Op A C R j u (c + d) :=
  ⟨k.ref, k.is, (h.kp.sub hs).trans k.kp, by have := h.fr; have := k.fr; omega, k.cap.trans h.cap⟩
theorem Op.weak {A B : AM} {R : List Int} {i : Int} {t : Tr} {c d : Nat} (h : Op A B R i t c) (hd : c ≤ d) : Op A B R i t d := ⟨h.ref, h.is, h.kp, by have := h.fr; omega, h.cap⟩
end Go.V
