/-
  Plain theory of balanced trees: join, insertion, deletion; lists of entries, balance, costs, heights.
  Conditions: none.
-/
import Derived.Test.YtlnlnebibgdjdaaEgb
namespace Go.V
open Go

inductive Tr where
  | nil
  | node (l : Tr) (k v : Int) (r : Tr)
namespace Tr
def n : Tr → Nat
  | nil => 0
  | node l _ _ r => l.n + r.n + 1
def ls : Tr → List (Int × Int)
  | nil => []
  | node l k v r => l.ls ++ (k, v) :: r.ls
def ht : Tr → Nat
  | nil => 0
  | node l _ _ r => max l.ht r.ht + 1
end Tr
abbrev Bal (a b : Nat) : Prop := a + 1 ≤ 3 * (b + 1) ∧ b + 1 ≤ 3 * (a + 1)
namespace Tr
def ok : Tr → Prop
  | nil => True
  | node l _ _ r => Bal l.n r.n ∧ l.ok ∧ r.ok
theorem ls_len : ∀ t : Tr, t.ls.length = t.n
  | nil => rfl
  | node l _ _ r => by simp [ls, n, ls_len l, ls_len r]; omega
theorem n0 {t : Tr} (h : t.n = 0) : t = nil := by
  cases t with
  | nil => rfl
  | node => simp [n] at h
/-- the left side is the lighter one: rotated once or doubly; its cost is what is added to the nodes that are made -/
def dbL (l : Tr) (k v fk fv : Int) (s : Tr) : Tr → Tr
  | nil => nil
  | node x gk gv y => node (node l k v x) gk gv (node y fk fv s)
def litL (l : Tr) (k v : Int) : Tr → Tr
  | nil => node l k v nil
  | node m fk fv s => if m.n = 0 ∨ (Bal l.n m.n ∧ Bal (l.n + m.n + 1) s.n) then node (node l k v m) fk fv s else dbL l k v fk fv s m
def dbR (r : Tr) (k v fk fv : Int) (s : Tr) : Tr → Tr
  | nil => nil
  | node x gk gv y => node (node s fk fv x) gk gv (node y k v r)
def litR (r : Tr) (k v : Int) : Tr → Tr
  | nil => node nil k v r
  | node s fk fv m => if m.n = 0 ∨ (Bal m.n r.n ∧ Bal s.n (m.n + r.n + 1)) then node s fk fv (node m k v r) else dbR r k v fk fv s m
def bal (l : Tr) (k v : Int) (r : Tr) : Tr := if Bal l.n r.n then node l k v r else if l.n < r.n then litL l k v r else litR r k v l
def join : Tr → Int → Int → Tr → Tr
  | nil, k, v, nil => node nil k v nil
  | nil, k, v, node m fk fv s => if Bal 0 (m.n + s.n + 1) then node nil k v (node m fk fv s) else bal (join nil k v m) fk fv s
  | node s fk fv m, k, v, nil => if Bal (s.n + m.n + 1) 0 then node (node s fk fv m) k v nil else bal s fk fv (join m k v nil)
  | node s fk fv m, k, v, node m' fk' fv' s' => if Bal (s.n + m.n + 1) (m'.n + s'.n + 1) then node (node s fk fv m) k v (node m' fk' fv' s')
    else if m'.n + s'.n < s.n + m.n then bal s fk fv (join m k v (node m' fk' fv' s')) else bal (join (node s fk fv m) k v m') fk' fv' s'
termination_by l _ _ r => l.n + r.n
decreasing_by all_goals simp only [n]; omega
/-- how many nodes a join makes at most -/
def jc : Tr → Tr → Nat
  | nil, nil => 1
  | nil, node m _ _ s => if Bal 0 (m.n + s.n + 1) then 1 else jc nil m + 3
  | node s _ _ m, nil => if Bal (s.n + m.n + 1) 0 then 1 else jc m nil + 3
  | node s fk fv m, node m' fk' fv' s' => if Bal (s.n + m.n + 1) (m'.n + s'.n + 1) then 1
    else if m'.n + s'.n < s.n + m.n then jc m (node m' fk' fv' s') + 3 else jc (node s fk fv m) m' + 3
termination_by l r => l.n + r.n
decreasing_by all_goals simp only [n]; omega

theorem litL_n {l r : Tr} {k v : Int} (hr : r ≠ nil) : (litL l k v r).n = l.n + r.n + 1 ∧ (litL l k v r).ls = l.ls ++ (k, v) :: r.ls := by
  cases r with
  | nil => exact absurd rfl hr
  | node m fk fv s =>
    rw [litL]
    split
    · exact ⟨by simp only [n]; omega, by simp [ls]⟩
    · cases m with
      | nil => simp [n] at *
      | node x gk gv y => exact ⟨by simp only [dbL, n]; omega, by simp [dbL, ls]⟩
theorem litR_n {l r : Tr} {k v : Int} (hl : l ≠ nil) : (litR r k v l).n = l.n + r.n + 1 ∧ (litR r k v l).ls = l.ls ++ (k, v) :: r.ls := by
  cases l with
  | nil => exact absurd rfl hl
  | node s fk fv m =>
    rw [litR]
    split
    · exact ⟨by simp only [n]; omega, by simp [ls]⟩
    · cases m with
      | nil => simp [n] at *
      | node x gk gv y => exact ⟨by simp only [dbR, n]; omega, by simp [dbR, ls]⟩
theorem bal_n (l : Tr) (k v : Int) (r : Tr) : (bal l k v r).n = l.n + r.n + 1 ∧ (bal l k v r).ls = l.ls ++ (k, v) :: r.ls := by
  unfold bal
  split
  · exact ⟨rfl, rfl⟩
  · rename_i h
    split
    · refine litL_n fun e => ?_
      subst e; simp [n] at *
    · refine litR_n fun e => ?_
      subst e
      simp only [n] at *
      have : r.n = 0 := by omega
      omega
/-- the lighter side is too light by what one join adds -/
def Near (a b : Nat) : Prop := 3 * (b + 1) ≤ 13 * (a + 1)
theorem litL_ok {l r : Tr} {k v : Int} (hl : l.ok) (hr : r.ok) (h3 : 3 * (l.n + 1) < r.n + 1) (hN : Near l.n r.n) : (litL l k v r).ok := by
  cases r with
  | nil => simp [n] at h3
  | node m fk fv s =>
    obtain ⟨⟨b1, b2⟩, hm, hs⟩ := hr
    simp only [n] at h3
    unfold Near at hN; simp only [n] at hN
    rw [litL]
    split
    · rename_i hc
      rcases hc with hc | hc
      · have := n0 hc; subst this
        simp only [n] at *
        exact ⟨by simp only [n]; constructor <;> omega, ⟨by simp only [n]; constructor <;> omega, hl, hm⟩, hs⟩
      · exact ⟨by simp only [n]; constructor <;> omega, ⟨hc.1, hl, hm⟩, hs⟩
    · rename_i hc
      cases m with
      | nil => simp [n] at hc
      | node x gk gv y =>
        obtain ⟨⟨c1, c2⟩, hx, hy⟩ := hm
        simp only [n] at *
        refine ⟨?_, ⟨?_, hl, hx⟩, ⟨?_, hy, hs⟩⟩ <;> (try simp only [n]) <;> constructor <;> omega
theorem litR_ok {l r : Tr} {k v : Int} (hl : l.ok) (hr : r.ok) (h3 : 3 * (r.n + 1) < l.n + 1) (hN : Near r.n l.n) : (litR r k v l).ok := by
  cases l with
  | nil => simp [n] at h3
  | node s fk fv m =>
    obtain ⟨⟨b1, b2⟩, hs, hm⟩ := hl
    simp only [n] at h3
    unfold Near at hN; simp only [n] at hN
    rw [litR]
    split
    · rename_i hc
      rcases hc with hc | hc
      · have := n0 hc; subst this
        simp only [n] at *
        exact ⟨by simp only [n]; constructor <;> omega, hs, ⟨by simp only [n]; constructor <;> omega, hm, hr⟩⟩
      · exact ⟨by simp only [n]; constructor <;> omega, hs, ⟨hc.1, hm, hr⟩⟩
    · rename_i hc
      cases m with
      | nil => simp [n] at hc
      | node x gk gv y =>
        obtain ⟨⟨c1, c2⟩, hx, hy⟩ := hm
        simp only [n] at *
        refine ⟨?_, ⟨?_, hs, hx⟩, ⟨?_, hy, hr⟩⟩ <;> (try simp only [n]) <;> constructor <;> omega
theorem bal_ok {l r : Tr} {k v : Int} (hl : l.ok) (hr : r.ok) (hN : Near l.n r.n) (hM : Near r.n l.n) : (bal l k v r).ok := by
  unfold bal
  split
  · rename_i h; exact ⟨h, hl, hr⟩
  · split
    · exact litL_ok hl hr (by omega) hN
    · exact litR_ok hl hr (by omega) hM
theorem join_n (l : Tr) (k v : Int) (r : Tr) : (join l k v r).n = l.n + r.n + 1 ∧ (join l k v r).ls = l.ls ++ (k, v) :: r.ls := by
  fun_induction join l k v r
  case case1 => exact ⟨rfl, rfl⟩
  case case2 => exact ⟨rfl, rfl⟩
  case case3 k v m fk fv s h ih =>
    refine ⟨?_, ?_⟩
    · rw [(bal_n _ _ _ _).1, ih.1]; simp only [n]; omega
    · rw [(bal_n _ _ _ _).2, ih.2]; simp [ls]
  case case4 => exact ⟨rfl, rfl⟩
  case case5 s fk fv m k v h ih =>
    refine ⟨?_, ?_⟩
    · rw [(bal_n _ _ _ _).1, ih.1]; simp only [n]; omega
    · rw [(bal_n _ _ _ _).2, ih.2]; simp [ls]
  case case6 => exact ⟨rfl, rfl⟩
  case case7 s fk fv m k v m' fk' fv' s' h1 h2 ih =>
    refine ⟨?_, ?_⟩
    · rw [(bal_n _ _ _ _).1, ih.1]; simp only [n]; omega
    · rw [(bal_n _ _ _ _).2, ih.2]; simp [ls]
  case case8 s fk fv m k v m' fk' fv' s' h1 h2 ih =>
    refine ⟨?_, ?_⟩
    · rw [(bal_n _ _ _ _).1, ih.1]; simp only [n]; omega
    · rw [(bal_n _ _ _ _).2, ih.2]; simp [ls]
theorem join_ok {l r : Tr} {k v : Int} (hl : l.ok) (hr : r.ok) : (join l k v r).ok := by
  fun_induction join l k v r
  case case1 => exact ⟨by simp [n], trivial, trivial⟩
  case case2 h => exact ⟨h, hl, hr⟩
  case case3 k v m fk fv s h ih =>
    obtain ⟨⟨b1, b2⟩, hm, hs⟩ := hr
    have hn := (join_n nil k v m).1
    simp only [n] at hn
    refine bal_ok (ih hl hm) hs ?_ ?_ <;> unfold Near <;> rw [hn] <;> omega
  case case4 h => exact ⟨h, hl, hr⟩
  case case5 s fk fv m k v h ih =>
    obtain ⟨⟨b1, b2⟩, hs, hm⟩ := hl
    have hn := (join_n m k v nil).1
    simp only [n] at hn
    refine bal_ok hs (ih hm hr) ?_ ?_ <;> unfold Near <;> rw [hn] <;> omega
  case case6 h => exact ⟨h, hl, hr⟩
  case case7 s fk fv m k v m' fk' fv' s' h1 h2 ih =>
    obtain ⟨⟨b1, b2⟩, hs, hm⟩ := hl
    have hn := (join_n m k v (node m' fk' fv' s')).1
    simp only [n] at hn
    refine bal_ok hs (ih hm hr) ?_ ?_ <;> unfold Near <;> rw [hn] <;> omega
  case case8 s fk fv m k v m' fk' fv' s' h1 h2 ih =>
    obtain ⟨⟨b1, b2⟩, hm, hs⟩ := hr
    have hn := (join_n (node s fk fv m) k v m').1
    simp only [n] at hn
    refine bal_ok (ih hl hm) hs ?_ ?_ <;> unfold Near <;> rw [hn] <;> omega
/-! ### costs -/
theorem jc_bal {l r : Tr} (h : Bal l.n r.n) : jc l r = 1 := by
  cases l with
  | nil =>
    cases r with
    | nil => simp [jc]
    | node m a b s => rw [jc, if_pos (by simpa [n] using h)]
  | node s a b m =>
    cases r with
    | nil => rw [jc, if_pos (by simpa [n] using h)]
    | node m' a' b' s' => rw [jc, if_pos (by simpa [n] using h)]
/-- one entry more or less on one side costs four nodes at most, or seven where that side is empty now -/
theorem jc_near {l r : Tr} (hl : l.ok) (hr : r.ok) (h1 : l.n + 1 ≤ 3 * (r.n + 1) + 1 ∨ (l.n + 1 ≤ 3 * (r.n + 1) + 3 ∧ 1 ≤ r.n)) (h2 : r.n + 1 ≤ 3 * (l.n + 1) + 1 ∨ (r.n + 1 ≤ 3 * (l.n + 1) + 3 ∧ 1 ≤ l.n)) : jc l r ≤ 4 := by
  cases l with
  | nil =>
    cases r with
    | nil => simp [jc]
    | node m a b s =>
      rw [jc]
      obtain ⟨⟨b1, b2⟩, hm, hs⟩ := hr
      simp only [n] at h2
      split
      · omega
      · rw [jc_bal (by simp only [n]; constructor <;> omega)]; omega
  | node s a b m =>
    obtain ⟨⟨b1, b2⟩, hs, hm⟩ := hl
    cases r with
    | nil =>
      rw [jc]
      simp only [n] at h1
      split
      · omega
      · rw [jc_bal (by simp only [n]; constructor <;> omega)]; omega
    | node m' a' b' s' =>
      obtain ⟨⟨c1, c2⟩, hm', hs'⟩ := hr
      simp only [n] at h1 h2
      rw [jc]
      split
      · omega
      · split
        · rw [jc_bal (by simp only [n]; constructor <;> omega)]; omega
        · rw [jc_bal (by simp only [n]; constructor <;> omega)]; omega
theorem jc_nilL {r : Tr} (hr : r.ok) (h : r.n ≤ 5) : jc nil r ≤ 7 := by
  cases r with
  | nil => simp [jc]
  | node m a b s =>
    rw [jc]
    obtain ⟨⟨b1, b2⟩, hm, hs⟩ := hr
    simp only [n] at h
    split
    · omega
    · have := jc_near (l := nil) (r := m) trivial hm (by simp only [n]; omega) (by simp only [n]; omega)
      omega
theorem jc_nilR {l : Tr} (hl : l.ok) (h : l.n ≤ 5) : jc l nil ≤ 7 := by
  cases l with
  | nil => simp [jc]
  | node s a b m =>
    rw [jc]
    obtain ⟨⟨b1, b2⟩, hs, hm⟩ := hl
    simp only [n] at h
    split
    · omega
    · have := jc_near (l := m) (r := nil) hm trivial (by simp only [n]; omega) (by simp only [n]; omega)
      omega
/-! ### insertion -/
def ins (k v : Int) : Tr → Tr
  | nil => node nil k v nil
  | node l x y r => if k < x then join (ins k v l) x y r else if x < k then join l x y (ins k v r) else node l k v r
def ic (k v : Int) : Tr → Nat
  | nil => 1
  | node l x _ r => if k < x then ic k v l + jc (ins k v l) r else if x < k then ic k v r + jc l (ins k v r) else 1
def has (k : Int) : Tr → Bool
  | nil => false
  | node l x _ r => if k < x then l.has k else if x < k then r.has k else true
theorem ins_n (k v : Int) : ∀ t : Tr, (ins k v t).n = t.n + (if t.has k then 0 else 1)
  | nil => by simp [ins, has, n]
  | node l x y r => by
    unfold ins has
    split
    · rw [(join_n _ _ _ _).1, ins_n k v l]; simp only [n]; omega
    · split
      · rw [(join_n _ _ _ _).1, ins_n k v r]; simp only [n]; omega
      · simp [n]
theorem ins_ok (k v : Int) : ∀ t : Tr, t.ok → (ins k v t).ok
  | nil, _ => ⟨by simp [n], trivial, trivial⟩
  | node l x y r, h => by
    unfold ins
    split
    · exact join_ok (ins_ok k v l h.2.1) h.2.2
    · split
      · exact join_ok h.2.1 (ins_ok k v r h.2.2)
      · exact h
theorem ic_le (k v : Int) : ∀ t : Tr, t.ok → ic k v t ≤ 4 * t.ht + 1
  | nil, _ => by simp [ic, ht]
  | node l x y r, h => by
    obtain ⟨⟨b1, b2⟩, hl, hr⟩ := h
    unfold ic
    have el := ins_n k v l
    have er := ins_n k v r
    simp only [ht]
    split
    · have h1 := ic_le k v l hl
      have h2 := jc_near (ins_ok k v l hl) hr (by split at el <;> omega) (by split at el <;> omega)
      omega
    · split
      · have h1 := ic_le k v r hr
        have h2 := jc_near hl (ins_ok k v r hr) (by split at er <;> omega) (by split at er <;> omega)
        omega
      · omega
/-! ### the last entry, two trees in one -/
def pop : Tr → Tr × Int × Int
  | nil => (nil, 0, 0)
  | node l k v nil => (l, k, v)
  | node l k v (node a b c d) => (join l k v (pop (node a b c d)).1, (pop (node a b c d)).2)
def pc : Tr → Nat
  | nil => 0
  | node _ _ _ nil => 0
  | node l _ _ (node a b c d) => pc (node a b c d) + jc l (pop (node a b c d)).1
theorem pop_n : ∀ t : Tr, t ≠ nil → (pop t).1.n + 1 = t.n ∧ (pop t).1.ls ++ [(pop t).2] = t.ls
  | nil, h => absurd rfl h
  | node l k v nil, _ => by simp [pop, n, ls]
  | node l k v (node a b c d), _ => by
    have ih := pop_n (node a b c d) (by simp)
    unfold pop
    simp only
    refine ⟨?_, ?_⟩
    · rw [(join_n _ _ _ _).1]; rw [n]; omega
    · rw [(join_n _ _ _ _).2, ls.eq_2 l, ← ih.2]; simp
theorem pop_ok : ∀ t : Tr, t.ok → (pop t).1.ok
  | nil, _ => trivial
  | node l k v nil, h => h.2.1
  | node l k v (node a b c d), h => by
    unfold pop
    exact join_ok h.2.1 (pop_ok _ h.2.2)
theorem pc_le : ∀ t : Tr, t.ok → pc t ≤ 4 * t.ht - 1
  | nil, _ => by simp [pc]
  | node l k v nil, _ => by simp [pc]
  | node l k v (node a b c d), h => by
    obtain ⟨⟨b1, b2⟩, hl, hr⟩ := h
    have ih := pc_le (node a b c d) hr
    have hn := (pop_n (node a b c d) (by simp)).1
    have hk := pop_ok _ hr
    unfold pc
    have hh : ht (node l k v (node a b c d)) = max l.ht (node a b c d).ht + 1 := rfl
    have h0 : 1 ≤ (node a b c d).ht := by simp [ht]
    by_cases e : (pop (node a b c d)).1.n = 0
    · have e2 := n0 e
      have e3 : pc (node a b c d) = 0 := by
        cases d with
        | nil => rfl
        | node => simp only [n] at hn; omega
      rw [e2, e3]
      have := jc_nilR hl (by omega)
      omega
    · have := jc_near hl hk (by omega) (by omega)
      omega
def cat (l r : Tr) : Tr := match l, r with
  | nil, r => r
  | l, nil => l
  | l, r => join (pop l).1 (pop l).2.1 (pop l).2.2 r
def cc (l r : Tr) : Nat := match l, r with
  | nil, _ => 0
  | _, nil => 0
  | l, r => pc l + jc (pop l).1 r
theorem cat_n (l r : Tr) : (cat l r).n = l.n + r.n ∧ (cat l r).ls = l.ls ++ r.ls := by
  cases l with
  | nil => simp [cat, n, ls]
  | node a b c d =>
    cases r with
    | nil => simp [cat, n, ls]
    | node a' b' c' d' =>
      have h := pop_n (node a b c d) (by simp)
      unfold cat
      refine ⟨?_, ?_⟩
      · rw [(join_n _ _ _ _).1]; omega
      · rw [(join_n _ _ _ _).2, ← h.2]; simp
theorem cat_ok {l r : Tr} (hl : l.ok) (hr : r.ok) : (cat l r).ok := by
  cases l with
  | nil => exact hr
  | node a b c d =>
    cases r with
    | nil => exact hl
    | node a' b' c' d' => exact join_ok (pop_ok _ hl) hr
/-! ### deletion -/
def del (k : Int) : Tr → Tr
  | nil => nil
  | node l x y r => if k < x then join (del k l) x y r else if x < k then join l x y (del k r) else cat l r
def dc (k : Int) : Tr → Nat
  | nil => 0
  | node l x _ r => if k < x then dc k l + jc (del k l) r else if x < k then dc k r + jc l (del k r) else cc l r
theorem del_n (k : Int) : ∀ t : Tr, (del k t).n + (if t.has k then 1 else 0) = t.n
  | nil => by simp [del, has, n]
  | node l x y r => by
    unfold del has
    split
    · have := del_n k l; rw [(join_n _ _ _ _).1]; simp only [n]; omega
    · split
      · have := del_n k r; rw [(join_n _ _ _ _).1]; simp only [n]; omega
      · rw [(cat_n _ _).1]; simp [n]
theorem del_ok (k : Int) : ∀ t : Tr, t.ok → (del k t).ok
  | nil, _ => trivial
  | node l x y r, h => by
    unfold del
    split
    · exact join_ok (del_ok k l h.2.1) h.2.2
    · split
      · exact join_ok h.2.1 (del_ok k r h.2.2)
      · exact cat_ok h.2.1 h.2.2
theorem cc_le {l r : Tr} (hl : l.ok) (hr : r.ok) (hb : Bal l.n r.n) : cc l r ≤ 4 * l.ht + 4 := by
  obtain ⟨b1, b2⟩ := hb
  cases l with
  | nil => simp [cc]
  | node a b c d =>
    cases r with
    | nil => simp [cc]
    | node a' b' c' d' =>
      have hn := (pop_n (node a b c d) (by simp)).1
      have hp := pc_le _ hl
      have hk := pop_ok _ hl
      have h0 : 1 ≤ (node a b c d).ht := by simp [ht]
      unfold cc
      simp only
      by_cases e : (pop (node a b c d)).1.n = 0
      · have e2 := n0 e
        have e3 : pc (node a b c d) = 0 := by
          cases d with
          | nil => rfl
          | node => simp only [n] at hn; omega
        rw [e2, e3]
        have := jc_nilL hr (by omega)
        omega
      · have := jc_near hk hr (by omega) (by omega)
        omega
theorem dc_small (k : Int) {t : Tr} (h : (del k t).n = 0) : dc k t = 0 := by
  cases t with
  | nil => rfl
  | node l x y r =>
    unfold del at h
    unfold dc
    split at h
    · rw [(join_n _ _ _ _).1] at h; omega
    · split at h
      · rw [(join_n _ _ _ _).1] at h; omega
      · rename_i h1 h2
        rw [if_neg h1, if_neg h2]
        rw [(cat_n _ _).1] at h
        have := n0 (t := l) (by omega)
        subst this
        rfl
theorem dc_le (k : Int) : ∀ t : Tr, t.ok → dc k t ≤ 4 * t.ht + 3
  | nil, _ => by simp [dc]
  | node l x y r, h => by
    obtain ⟨⟨b1, b2⟩, hl, hr⟩ := h
    unfold dc
    have el := del_n k l
    have er := del_n k r
    have hdl := dc_le k l hl
    have hdr := dc_le k r hr
    simp only [ht]
    split
    · by_cases e : (del k l).n = 0
      · have e1 := dc_small k e
        rw [e1, n0 e]
        have := jc_nilL hr (by split at el <;> omega)
        omega
      · have h2 := jc_near (del_ok k l hl) hr (by split at el <;> omega) (by split at el <;> omega)
        omega
    · split
      · by_cases e : (del k r).n = 0
        · have e1 := dc_small k e
          rw [e1, n0 e]
          have := jc_nilR hl (by split at er <;> omega)
          omega
        · have h2 := jc_near hl (del_ok k r hr) (by split at er <;> omega) (by split at er <;> omega)
          omega
      · have := cc_le hl hr ⟨b1, b2⟩
        omega
/-! ### heights -/
def wt : Nat → Nat
  | 0 => 1
  | h + 1 => wt h + (wt h + 2) / 3
theorem wt_ht : ∀ t : Tr, t.ok → wt t.ht ≤ t.n + 1
  | nil, _ => by simp [wt, ht, n]
  | node l k v r, h => by
    obtain ⟨⟨b1, b2⟩, hl, hr⟩ := h
    have h1 := wt_ht l hl
    have h2 := wt_ht r hr
    simp only [ht, n]
    rcases Nat.le_total l.ht r.ht with e | e
    · rw [Nat.max_eq_right e, wt]; omega
    · rw [Nat.max_eq_left e, wt]; omega
theorem wt_mono {a b : Nat} (h : a ≤ b) : wt a ≤ wt b := by
  induction h with
  | refl => exact Nat.le_refl _
  | step h ih => rw [wt]; omega
end Tr
end Go.V
