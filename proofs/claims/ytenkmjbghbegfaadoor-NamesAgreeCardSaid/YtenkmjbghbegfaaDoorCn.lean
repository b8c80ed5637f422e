/-
  The name of a call; names with numbers.
  Conditions: the arguments lie in their kinds.
-/
import Derived.Test.YtenkmjbghbegfaaDoorFi0
import Derived.Test.YtenkmjbghbegfaaDoorNml
namespace Go.Proofs.YtenkmjbghbegfaaDoor
open Go Go.V

/-- a call -/
structure Cl where
  name : Int
  text : ByteArray
  old : Int
  new : Int
  raw : Bool
  fit : Bool
def pool : List ByteArray := [⟨#[109, 97, 105, 110]⟩, ⟨#[97]⟩, ⟨#[97, 47, 98]⟩, ⟨#[97, 47, 99]⟩, ⟨#[117, 115, 101, 114, 47, 120]⟩, ⟨#[117, 115, 101, 114, 47, 121]⟩, ⟨#[]⟩, ⟨#[65]⟩, ⟨#[109, 97, 105, 110, 45, 50]⟩]
def cname (c : Cl) : ByteArray := if c.raw = true then c.text else pool.getD (c.name % 9).toNat ⟨#[]⟩
/-- its numbers lie in their kinds -/
structure ClOk (c : Cl) : Prop where
  nm : -9223372036854775808 ≤ c.name ∧ c.name ≤ 9223372036854775807
  od : 0 ≤ c.old ∧ c.old ≤ 18446744073709551615
  nw : 0 ≤ c.new ∧ c.new ≤ 18446744073709551615
theorem cname_raw {c : Cl} (h : c.raw = true) : c.text = cname c := by rw [cname, if_pos h]
theorem cname_at {c : Cl} (h : c.raw = false) {x : Value} (hx : x = .string (cname c)) : (#[Value.string ⟨#[109, 97, 105, 110]⟩, .string ⟨#[97]⟩, .string ⟨#[97, 47, 98]⟩, .string ⟨#[97, 47, 99]⟩, .string ⟨#[117, 115, 101, 114, 47, 120]⟩, .string ⟨#[117, 115, 101, 114, 47, 121]⟩, .string ⟨#[]⟩, .string ⟨#[65]⟩, .string ⟨#[109, 97, 105, 110, 45, 50]⟩] : Array Value)[(c.name % 9).toNat]? = some x := by
  subst hx
  rw [cname, if_neg (by rw [h]; decide)]
  have h1 : (c.name % 9).toNat < 9 := by omega
  have h2 : ∀ k, k < 9 → (#[Value.string ⟨#[109, 97, 105, 110]⟩, .string ⟨#[97]⟩, .string ⟨#[97, 47, 98]⟩, .string ⟨#[97, 47, 99]⟩, .string ⟨#[117, 115, 101, 114, 47, 120]⟩, .string ⟨#[117, 115, 101, 114, 47, 121]⟩, .string ⟨#[]⟩, .string ⟨#[65]⟩, .string ⟨#[109, 97, 105, 110, 45, 50]⟩] : Array Value)[k]? = some (.string (pool.getD k ⟨#[]⟩)) := fun k hk => by
    match k, hk with
    | 0, _ | 1, _ | 2, _ | 3, _ | 4, _ | 5, _ | 6, _ | 7, _ | 8, _ => rfl
  exact h2 _ h1
theorem cname_spec {g w : World} {L : List HP} (c : Cl) (hc : ClOk c) (hS : St g (L) w) :
    Sp Tryd.prog 15 [.agg #[.int .i64 c.name, .string c.text, .int .u64 c.old, .int .u64 c.new, .bool c.raw, .bool c.fit]] w (fun v w' => v = .string (cname c) ∧ St g (L) w') := by
  refine Sp.enter Tryd.func15 rfl (by kernel_rfl) (by kernel_rfl) ?_
  refine WC.seq ?_
  refine WC.region ?_
  refine WL.box rfl rfl #[.int .i64 c.name, .string c.text, .int .u64 c.old, .int .u64 c.new, .bool c.raw, .bool c.fit] hS rfl rfl (fun b1 w hS => ?_)
  refine WL.r 1 rfl ?_
  refine WL.nil ?_
  refine WC.seq ?_
  refine WC.seq ?_
  refine WC.region ?_
  refine WL.run 2 [.bool c.raw] rfl (by exact hS.ld 0 rfl rfl) ?_
  refine WL.nil ?_
  refine WC.if_ rfl (fun cd1 => ?_) (fun cd1 => ?_)
  · refine WC.seq ?_
    refine WC.region ?_
    refine WL.run 3 [.string c.text] rfl (by exact hS.ld 0 rfl rfl) ?_
    refine WL.nil ?_
    refine WC.ret ?_
    refine ⟨[.string c.text], rfl, ?_⟩
    replace hS := (hS.sel 1 [] rfl)
    exact ⟨congrArg Value.string (cname_raw cd1), hS⟩
  · refine WC.skip ?_
    refine WC.seq ?_
    refine WC.region ?_
    have hnm := hc.nm
    refine WL.buildA rfl rfl (cs := [.string ⟨#[109, 97, 105, 110]⟩, .string ⟨#[97]⟩, .string ⟨#[97, 47, 98]⟩, .string ⟨#[97, 47, 99]⟩, .string ⟨#[117, 115, 101, 114, 47, 120]⟩, .string ⟨#[117, 115, 101, 114, 47, 121]⟩, .string ⟨#[]⟩, .string ⟨#[65]⟩, .string ⟨#[109, 97, 105, 110, 45, 50]⟩]) ar_69 zv_69 rfl ?_
    refine WL.run 2 [.int .i64 c.name] rfl (by exact hS.ld 0 rfl rfl) ?_
    refine WL.call rfl rfl (mod_spec (k := c.name) (n := 9) (hk := (by assumption)) (hn := (by omega)) (hS := hS)) rfl ?_
    clear hS; rintro _ w ⟨rfl, hS⟩
    replace hS : St g (cel b1 #[.int .i64 c.name, .string c.text, .int .u64 c.old, .int .u64 c.new, .bool c.raw, .bool c.fit] 40 :: L) w := hS
    refine WL.ixA rfl rfl (v := c.name % 9) ((c.name % 9).toNat) ar_69 rfl rfl (by omega) (by omega) (cname_at cd1 rfl) ?_
    refine WL.r 1 rfl ?_
    refine WL.nil ?_
    refine WC.ret ?_
    refine ⟨[.string (cname c)], rfl, ?_⟩
    replace hS := (hS.sel 1 [] rfl)
    exact ⟨rfl, hS⟩
def enC (l : List Cl) : List (List Value) := l.map fun c => [.int .i64 c.name, .string c.text, .int .u64 c.old, .int .u64 c.new, .bool c.raw, .bool c.fit]
@[simp] theorem enC_len (l : List Cl) : (enC l).length = l.length := by simp [enC]
theorem enC_at {l : List Cl} {k : Nat} {c : Cl} (h : l[k]? = some c) : (enC l)[k]? = some [.int .i64 c.name, .string c.text, .int .u64 c.old, .int .u64 c.new, .bool c.raw, .bool c.fit] := by simp [enC, h]


theorem digits_spec {g w : World} {L : List HP} (i : Int) (hi : 0 ≤ i ∧ i ≤ 999) (hS : St g (L) w) :
    Sp Tryd.prog 24 [.int .i64 i] w (fun v w' => v = .string (dig i) ∧ St g (L) w') := by
  refine Sp.enter Tryd.func24 rfl (by kernel_rfl) (by kernel_rfl) ?_
  have _ := hi
  refine WC.seq ?_
  refine WC.region ?_
  refine WL.r 1 rfl ?_
  refine WL.nil ?_
  refine WC.seq ?_
  refine WC.region ?_
  refine WL.r 2 rfl ?_
  refine WL.reb 4 (.int .i64 (i / 100)) (congrArg (Value.int .i64) (quo_i64 (p := i) (q := 100) (by omega))) ?_
  refine WL.r 1 rfl ?_
  refine WL.reb 5 (.int .i64 ((i / 100) % 10)) (congrArg (Value.int .i64) (Int.tmod_eq_emod_of_nonneg (a := i / 100) (by omega))) ?_
  refine WL.r 1 rfl ?_
  refine WL.nw 6 rfl (w64 (by omega)) ?_
  refine WL.r 1 rfl ?_
  refine WL.nw 7 rfl (wu8 (by omega)) ?_
  refine WL.r 2 rfl ?_
  refine WL.reb 9 (.int .i64 (i / 10)) (congrArg (Value.int .i64) (quo_i64 (p := i) (q := 10) (by omega))) ?_
  refine WL.r 1 rfl ?_
  refine WL.reb 10 (.int .i64 ((i / 10) % 10)) (congrArg (Value.int .i64) (Int.tmod_eq_emod_of_nonneg (a := i / 10) (by omega))) ?_
  refine WL.r 1 rfl ?_
  refine WL.nw 11 rfl (w64 (by omega)) ?_
  refine WL.r 1 rfl ?_
  refine WL.nw 12 rfl (wu8 (by omega)) ?_
  refine WL.r 2 rfl ?_
  refine WL.reb 14 (.int .i64 (i % 10)) (congrArg (Value.int .i64) (Int.tmod_eq_emod_of_nonneg (a := i) (by omega))) ?_
  refine WL.r 1 rfl ?_
  refine WL.nw 15 rfl (w64 (by omega)) ?_
  refine WL.r 1 rfl ?_
  refine WL.nw 16 rfl (wu8 (by omega)) ?_
  refine WL.lit rfl rfl (by8 [110, 48 + ((i / 100) % 10), 48 + ((i / 10) % 10), 48 + (i % 10)]) el_22 hS (by exact ⟨rfl, rfl, rfl, rfl, rfl, rfl, rfl, rfl⟩) (by8_ok _) rfl (by decide) (fun b1 w hS => ?_)
  refine WL.reb 17 (.slice (some ⟨b1, 0, none⟩) [110, 48 + ((i / 100) % 10), 48 + ((i / 10) % 10), 48 + (i % 10)].length (List.length (by8 [110, 48 + ((i / 100) % 10), 48 + ((i / 10) % 10), 48 + (i % 10)]))) (congrArg (fun m => Value.slice (some ⟨b1, 0, none⟩) m (List.length (by8 [110, 48 + ((i / 100) % 10), 48 + ((i / 10) % 10), 48 + (i % 10)]))) (by8_len [110, 48 + ((i / 100) % 10), 48 + ((i / 10) % 10), 48 + (i % 10)])) ?_
  refine WL.toS rfl rfl Tryd.underlying22 Tryd.underlying9 Tryd.underlying5 (hS.srcO 0 rfl) (by intro x hx; simp only [List.mem_cons, List.not_mem_nil, or_false] at hx; omega) rfl ?_
  refine WL.r 1 rfl ?_
  refine WL.nil ?_
  as_aux_lemma =>
    refine WC.ret ?_
    refine ⟨[.string (mkS [110, 48 + ((i / 100) % 10), 48 + ((i / 10) % 10), 48 + (i % 10)])], rfl, ?_⟩
    replace hS := (hS.sel 1 [] rfl)
    exact ⟨rfl, hS⟩
end Go.Proofs.YtenkmjbghbegfaaDoor
