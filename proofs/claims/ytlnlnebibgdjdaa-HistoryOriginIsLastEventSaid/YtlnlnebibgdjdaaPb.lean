/-
  One side of a traversal as it lies in memory; a visit that collects changes.
  Conditions: none.
-/
import Derived.Test.YtlnlnebibgdjdaaPr
namespace Go.V
open Go Go.RowKit

structure SiA where
  u : Option Addr
  c : Nat
def sidF (s : Nat) (P : List Pt) (x : SiA) : List HP := [cel s #[.slice x.u (pts P).length x.c] 225, Own 228 5 (pts P) x.u x.c]
def Sid (s : Nat) (P : List Pt) : HP := ExB (sidF s P)
structure DfA where
  lb : Nat
  hb : Nat
  u : Option Addr
  c : Nat
/-- the visit of diff.Range: its bounds, what it has collected -/
def dfsF (b ob : Nat) (lo hi : Int) (out : List Chg) (x : DfA) : List HP := [cel b #[.func (.func 110) #[] #[.pointer (some ⟨x.lb, 0, none⟩), .pointer (some ⟨x.hb, 0, none⟩), .pointer (some ⟨ob, 0, none⟩)]] 187, cel x.lb #[.int .i64 lo] 2, cel x.hb #[.int .i64 hi] 2, cel ob #[.slice x.u (ch4 out).length x.c] 79, Own 61 4 (ch4 out) x.u x.c]
def Dfs (b ob : Nat) (lo hi : Int) (out : List Chg) : HP := ExB (dfsF b ob lo hi out)
end Go.V
