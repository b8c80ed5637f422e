/-
  A transaction as it lies in memory.
  Conditions: none.
-/
import Derived.Test.YtlnlnebibgdjdaaWm
namespace Go.V
open Go Go.RowKit

structure TxA where
  m : Nat
  u : Option Addr
  c : Nat
def txF (x a : Nat) (rt : Int) (xs : List WE) (q : Nat) (S : Kvs) (y : TxA) : List HP := [cel x #[.pointer (some ⟨a, 0, none⟩), .int .u32 rt, .bool false, .map (some y.m), .slice y.u (en2 S).length y.c] 145, blk y.m (.map (mE (List.map wK xs)) q), Own 153 2 (en2 S) y.u y.c]
def Tx (x a : Nat) (rt : Int) (xs : List WE) (q : Nat) (S : Kvs) : HP := ExB (txF x a rt xs q S)
end Go.V
