/-
  Slots, arenas and tables of handles as they lie in memory, each as one thing.
  Conditions: none.
-/
import Derived.Test.YtlnlnebibgdjdaaSlm
namespace Go.V
open Go Go.RowKit

structure SlA where
  ua : Option Addr
  uc : Nat
  ga : Option Addr
  gc : Nat
  ra : Option Addr
  rc : Nat
def sltF (s : Nat) (S : SM) (x : SlA) : List HP := [cel s #[.slice x.ua (bos S.used).length x.uc, .slice x.ga (u32s S.gen).length x.gc, .slice x.ra (u32s S.rel).length x.rc, .int .u32 S.fresh] 164, Own 4 1 (bos S.used) x.ua x.uc, Own 40 1 (u32s S.gen) x.ga x.gc, Own 40 1 (u32s S.rel) x.ra x.rc]
def Slt (s : Nat) (S : SM) : HP := ExB (sltF s S)
/-- an arena: its slots, the nodes, the counts -/
structure AM where
  s : SM
  nodes : List Nd
  cnt : List Int
structure ArA where
  p : Nat
  na : Option Addr
  nc : Nat
  ca : Option Addr
  cc : Nat
  rd : Int
def arnF (a : Nat) (A : AM) (x : ArA) : List HP := [cel a #[.pointer (some ⟨x.p, 0, none⟩), .slice x.na (nds A.nodes).length x.nc, .slice x.ca (i64s A.cnt).length x.cc, .int .u64 x.rd] 106, Slt x.p A.s, Own 123 8 (nds A.nodes) x.na x.nc, Own 3 1 (i64s A.cnt) x.ca x.cc]
def Arn (a : Nat) (A : AM) : HP := ExB (arnF a A)
/-- a table of handles -/
structure TM where
  s : SM
  vals : List Int
structure TbA where
  p : Nat
  va : Option Addr
  vc : Nat
def tblF (t : Nat) (T : TM) (x : TbA) : List HP := [cel t #[.pointer (some ⟨x.p, 0, none⟩), .slice x.va (u32s T.vals).length x.vc] 158, Slt x.p T.s, Own 40 1 (u32s T.vals) x.va x.vc]
def Tbl (t : Nat) (T : TM) : HP := ExB (tblF t T)
end Go.V
