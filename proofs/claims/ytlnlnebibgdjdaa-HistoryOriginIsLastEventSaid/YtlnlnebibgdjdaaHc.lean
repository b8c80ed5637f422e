/-
  A chain of trees on its way.
  Conditions: none.
-/
import Derived.Test.YtlnlnebibgdjdaaHn
import Derived.Test.YtlnlnebibgdjdaaTra
namespace Go.V
open Go Go.RowKit

def leF (x : LsE) : List HP := [Sh 46 2 (en2 x.es) x.a x.c]
theorem leF_sh (x : LsE) : ∀ A ∈ leF x, Sht A := fun A hA => by
  simp only [leF, List.mem_singleton] at hA; subst hA; exact Sht.sh
theorem St.shsDup {α : Type} {f : α → List HP} {zs : List α} {g w : World} {L : List HP} (h : St g L w) (i : Nat) (hi : L[i]? = some (Shs f zs)) : St g (Shs f zs :: L) w := by
  obtain ⟨o, r, a, b, c, d, e⟩ := h.own
  obtain ⟨o1, o2, h1, h2, hd, hh, hL⟩ := All.perm (perm_at hi) e
  exact ⟨h.os, h.tape, h.output, h.size, o, r, a, b, c, d, All.cat [Shs f zs] L (fun _ _ h => by cases h) (Sub.refl _) (Dj.none _) ⟨fun _ => none, fun _ => none, Sub.refl _, Sub.refl _, Dj.none _, hh, trivial⟩ e⟩
structure ChI (A : AM) (R rs : List Int) (LL : List LsE) (m k n c : Nat) : Prop where
  ref : ARf A R
  rl : R.length ≤ k + 1
  mem : ∀ r ∈ rs, r ∈ R
  rsl : rs.length = k + 1
  trs : RTs A (LL.map LsE.es) rs
  lok : ∀ x ∈ LL, Srt x.es ∧ x.es.length ≤ m + k ∧ kvR x.es
  fr : ((1 + (n + 1) * c : Nat) : Int) ≤ A.s.free + (k * c : Nat)
structure ChJ (A B : AM) (R R2 : List Int) (o : Int) (ns : Kvs) (m k c : Nat) : Prop where
  ref : ARf B R2
  rl : R2.length ≤ R.length + 1
  sub : ∀ r ∈ R, r ∈ R2
  om : o ∈ R2
  tr : ∃ t : Tr, Is B t o ∧ t.ok ∧ t.ls = ns
  kp : Kp A B R
  ok : Srt ns ∧ ns.length ≤ m + (k + 1) ∧ kvR ns
  fr : A.s.free ≤ B.s.free + (c : Int)
section
variable {A B : AM} {R R2 rs : List Int} {LL : List LsE} {m k n c : Nat} {o : Int} {ns : Kvs}
theorem ChI.room (h : ChI A R rs LL m k n c) (hk : k < n) : (c : Int) ≤ A.s.free := by
  have h1 := h.fr
  have h2 : (k + 1) * c ≤ (n + 1) * c := Nat.mul_le_mul_right c (by omega)
  rw [Nat.succ_mul] at h2
  omega
theorem ChI.step (h : ChI A R rs LL m k n c) (j : ChJ A B R R2 o ns m k c) (na : Option Addr) (nc : Nat) : ChI B R2 (rs ++ [o]) (LL ++ [⟨ns, na, nc⟩]) m (k + 1) n c := by
  have hL : LL.length = rs.length := by have := h.trs.len; rw [List.length_map] at this; exact this
  refine ⟨j.ref, by have := j.rl; have := h.rl; omega, fun r hr => ?_, by rw [List.length_append, h.rsl]; rfl, ⟨by simp [hL], fun i r hr => ?_⟩, fun x hx => ?_, ?_⟩
  · rcases List.mem_append.1 hr with hr | hr
    · exact j.sub r (h.mem r hr)
    · rw [List.mem_singleton.1 hr]; exact j.om
  · rcases Nat.lt_or_ge i rs.length with hi | hi
    · rw [List.getElem?_append_left hi] at hr
      obtain ⟨t, h1, h2, h3⟩ := h.trs.get i r hr
      refine ⟨t, j.kp r (h.mem r (List.mem_of_getElem? hr)) t h1, h2, h3.trans ?_⟩
      unfold lsA
      rw [List.getD_eq_getElem?_getD, List.getD_eq_getElem?_getD, List.map_append, List.getElem?_append_left (by rw [List.length_map]; omega)]
    · rw [List.getElem?_append_right hi] at hr
      have hi2 : i = rs.length := by
        have := (List.getElem?_eq_some_iff.1 hr).1
        simp at this; omega
      subst hi2
      obtain ⟨t, h1, h2, h3⟩ := j.tr
      simp only [Nat.sub_self, List.getElem?_cons_zero, Option.some.injEq] at hr
      subst hr
      refine ⟨t, h1, h2, h3.trans ?_⟩
      unfold lsA
      rw [List.getD_eq_getElem?_getD, List.map_append, List.getElem?_append_right (by rw [List.length_map]; omega), List.length_map, hL, Nat.sub_self]; rfl
  · rcases List.mem_append.1 hx with hx | hx
    · have := h.lok x hx; exact ⟨this.1, by omega, this.2.2⟩
    · rw [List.mem_singleton.1 hx]; exact j.ok
  · have h1 := h.fr
    have h2 := j.fr
    have h3 : (((k + 1) * c : Nat) : Int) = ((k * c : Nat) : Int) + (c : Int) := by rw [Nat.succ_mul]; rfl
    rw [h3]
    omega
theorem ChI.at (h : ChI A R rs LL m k n c) {i : Nat} {r : Int} {z : LsE} (hr : rs[i]? = some r) (hz : LL[i]? = some z) : r ∈ R ∧ ∃ t : Tr, Is A t r ∧ t.ok ∧ t.ls = z.es := by
  obtain ⟨t, h1, h2, h3⟩ := h.trs.get i r hr
  refine ⟨h.mem r (List.mem_of_getElem? hr), t, h1, h2, h3.trans ?_⟩
  unfold lsA
  rw [List.getD_eq_getElem?_getD, List.getElem?_map, hz]; rfl
theorem ChI.same (h : ChI A R rs LL m k n c) {i : Nat} {r : Int} {z : LsE} (hr : rs[i]? = some r) (hz : LL[i]? = some z) : ChJ A A R R r z.es m k c := by
  obtain ⟨h1, h2⟩ := h.at hr hz
  have h3 := h.lok z (List.mem_of_getElem? hz)
  exact ⟨h.ref, by omega, fun _ h => h, h1, h2, Kp.refl _ _, ⟨h3.1, by omega, h3.2.2⟩, by omega⟩
theorem kvR_lins {k v : Int} {l : Kvs} (h : kvR l) (hk : -9223372036854775808 ≤ k ∧ k ≤ 9223372036854775807) : kvR (lins k v l) := fun x hx => by
  unfold lins at hx
  rcases List.mem_append.1 hx with hx | hx
  · exact h x (List.mem_filter.1 hx).1
  · rcases List.mem_cons.1 hx with rfl | hx
    · exact hk
    · exact h x (List.mem_filter.1 hx).1
theorem kvR_ldel {k : Int} {l : Kvs} (h : kvR l) : kvR (ldel k l) := fun x hx => h x (List.mem_filter.1 hx).1
theorem ChI.ins (h : ChI A R rs LL m k n c) {i : Nat} {z : LsE} (hz : LL[i]? = some z) {t : Tr} (h1 : t.ok) (h2 : t.ls = z.es) {key v : Int} {j : Int} {d : Nat} (hk : -9223372036854775808 ≤ key ∧ key ≤ 9223372036854775807) (f : TOp A B R j (Tr.ins key v t) d) (hd : d ≤ c) : ChJ A B R (j :: R) j (lins key v z.es) m k c := by
  have h3 := h.lok z (List.mem_of_getElem? hz)
  refine ⟨f.ref, Nat.le_refl _, fun _ h => List.mem_cons_of_mem _ h, List.mem_cons_self .., ⟨_, f.is, Tr.ins_ok key v t h1, ?_⟩, f.kp, ⟨lins_srt h3.1, ?_, kvR_lins h3.2.2 hk⟩, by have := f.fr; omega⟩
  · rw [Tr.ins_ls key v t (by rw [h2]; exact h3.1), h2]
  · rw [lins_len h3.1]; split <;> omega
theorem ChI.del (h : ChI A R rs LL m k n c) {i : Nat} {z : LsE} (hz : LL[i]? = some z) {t : Tr} (h1 : t.ok) (h2 : t.ls = z.es) {key : Int} {j : Int} {d : Nat} (f : TOp A B R j (Tr.del key t) d) (hd : d ≤ c) : ChJ A B R (j :: R) j (ldel key z.es) m k c := by
  have h3 := h.lok z (List.mem_of_getElem? hz)
  refine ⟨f.ref, Nat.le_refl _, fun _ h => List.mem_cons_of_mem _ h, List.mem_cons_self .., ⟨_, f.is, Tr.del_ok key t h1, ?_⟩, f.kp, ⟨ldel_srt h3.1, ?_, kvR_ldel h3.2.2⟩, by have := f.fr; omega⟩
  · rw [Tr.del_ls key t (by rw [h2]; exact h3.1), h2]
  · exact Nat.le_trans (List.length_filter_le _ _) (by omega)
theorem ChI.init {i : Int} {t : Tr} {l : Kvs} (h1 : ARf A [i]) (h2 : Is A t i) (h3 : t.ok) (h4 : t.ls = l) (hl : Srt l ∧ kvR l) (hf : ((1 + (n + 1) * c : Nat) : Int) ≤ A.s.free) (a : Option Addr) (d : Nat) : ChI A [i] [i] [⟨l, a, d⟩] l.length 0 n c := by
  refine ⟨h1, by simp, fun _ h => h, rfl, ⟨rfl, fun j r hr => ?_⟩, fun x hx => ?_, by rw [Nat.zero_mul]; omega⟩
  · match j, hr with
    | 0, hr => exact ⟨t, Option.some.inj hr ▸ h2, h3, h4⟩
    | j + 1, hr => simp at hr
  · rw [List.mem_singleton.1 hx]; exact ⟨hl.1, by simp, hl.2⟩
theorem ChI.fin (h : ChI A R rs LL m k n c) (hm : m + k ≤ 100) : LOk (LL.map LsE.es) := fun l hl => by
  obtain ⟨x, hx, rfl⟩ := List.mem_map.1 hl
  have := h.lok x hx
  exact ⟨this.1, by omega, this.2.2⟩
end
end Go.V
