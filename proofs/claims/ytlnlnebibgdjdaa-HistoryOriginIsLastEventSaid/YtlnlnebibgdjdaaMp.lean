/-
  The engine: a map with 64-bit keys as an ascending list: an update at any key.
  Conditions: none; every fact is proved from the library's own definitions.
-/
import Derived.Test.YtlnlnebibgdjdaaPm
import Derived.Test.YtlnlnebibgdjdaaEgb
import Derived.Test.YtlnlnebibgdjdaaFnv
namespace Go.V
open Go Go.RowKit Go.Maps

section
variable {P : Program} {T : Tab} [hT : TabOk P T] {n : Nat} {os l : List Oper} {K : Kt} {F : Fm} {w g : World} {L : List HP} {b c : Nat} {t kt et : TypeId} {z : Value}
variable {α β : Type} {f : α → Value × Value × Nat} {nm : α → Int} {pay : α → β} {xs : List α} {M : List (Int × β)}
theorem WL.muP {o : Oper} {x y qq : Operand} {k : Int} {v : Value} (hg : o.guard = none) (hd : o.dst = none) (ho : o.op = .mapUpdate t x y qq) (hM : MapT P t kt (.int .i64) et z) (i : Nat) (hS : St g L w) (hi : L[i]? = some (blk b (.map (mE (xs.map f)) c))) (hx : ev F x = .map (some b)) (hy : ev F y = .int .i64 k) (hq : ev F qq = v)
    (hP : POk f nm pay xs c M) (mk : Nat → α) (h1 : ∀ j, f (mk j) = (.int .i64 k, v, j)) (h2 : ∀ j, nm (mk j) = k) (u : β) (h3 : ∀ j, pay (mk j) = u) (hr : -9223372036854775808 ≤ k ∧ k ≤ 9223372036854775807) (hl : M.length < 4096)
    (hk : ∀ xs' c' w', POk f nm pay xs' c' (pput k u M) → St g (L.set i (blk b (.map (mE (List.map f xs')) c'))) w' → WL P n os l K F w') : WL P n os (o :: l) K F w := by
  rcases ki_cases nm xs k with ⟨j, y, hj, hy2⟩ | hn
  · have hf : mfind (.int .i64) (.int .i64 k) (xs.map f) = some (some (j, (f y).2.1)) := hy2 ▸ ki_in hP.k.key hP.k.uniq hj
    have hky := hP.k.key y (List.mem_of_getElem? hj)
    rw [hy2] at hky
    have hjj : (xs.map f)[j]? = some (.int .i64 k, (f y).2.1, (f y).2.2) := by rw [List.getElem?_map, hj, ← hky]; rfl
    refine WL.muE hg hd ho hM i hS hi hx hy hq rfl hf hjj fun w' hS' => ?_
    have he : (xs.map f).set j (.int .i64 k, v, (f y).2.2) = (xs.set j (mk (f y).2.2)).map f := by rw [List.map_set, h1]
    rw [he] at hS'
    have h4 := hP.set hj (y := mk (f y).2.2) (by rw [h2, hy2]) (by rw [h1, hky]) (by rw [h1])
    rw [hy2, h3] at h4
    exact hk _ _ w' h4 hS'
  · refine WL.muN hg hd ho hM i hS hi hx hy hq rfl (ki_out hP.k.key hn) fun w' hS' => ?_
    have he : xs.map f ++ [(.int .i64 k, v, c)] = (xs ++ [mk c]).map f := by rw [List.map_append, List.map_singleton, h1]
    rw [he] at hS'
    have h4 := hP.snoc (y := mk c) (by rw [h1, h2]) (fun x hx => by rw [h2]; exact hn x hx) (by rw [h1]) (by rw [h2]; exact hr) (by have := hP.len; omega)
    rw [h2, h3] at h4
    exact hk _ _ w' h4 hS'
end
end Go.V
