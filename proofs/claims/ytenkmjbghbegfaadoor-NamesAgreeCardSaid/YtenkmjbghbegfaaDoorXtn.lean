/-
  The engine, fourteenth part, no program: functions of the library without a Go body: counting and finding a byte.
  Conditions: none; every fact is proved from the library's own definitions.
-/
import Derived.Test.YtenkmjbghbegfaaDoorMap
import Derived.Laws.Externs
import Derived.Lib.Bytealg
namespace Go.V
open Go Go.RowKit

/-- function f has no body, and the model's entry is e -/
def ExtF (P : Program) (f : FuncId) (e : Array Value → Sem Value) : Prop := ∃ fn, P.funcs[f]? = some fn ∧ (fn.name == "runtime.NumGoroutine") = false ∧ fn.body.isNone = true ∧ Extern.findNext fn = none ∧ Extern.find fn = some e
section
variable {P : Program} {T : Tab} [hT : TabOk P T] {n : Nat} {os l : List Oper} {K : Kt} {F : Fm} {w : World}
theorem WL.ext {o : Oper} {f : FuncId} {e : Array Value → Sem Value} {xs : List Operand} {ts : Array TypeId} {vs : List Value} {v : Value} (hg : o.guard = none) (ho : o.op = .call { callee := .value (.func f), args := xs.toArray, argTypes := ts }) (hE : ExtF P f e) (hv : evs F xs = vs) (hr : (e vs.toArray).run P w = .ok v w)
    (hk : WL P n os l K (updo F o.dst v) w) : WL P n os (o :: l) K F w := by
  obtain ⟨fn, h1, h2, h3, h4, h5⟩ := hE
  refine WL.val hg (fun hok => ?_) hk
  have e0 : xs.toArray.map (act n F).eval = vs.toArray := by
    rw [← hv, evs_eq, List.map_toArray]
    congr 1
    refine List.map_congr_left fun x hx => ?_
    exact okX_of hok (by simp [ho, Op.operands, Call.operands, hx])
  have hf : (act n F).eval (.func f) = .func (.func f) #[] #[] := rfl
  simp only [execOp, ho, resolve, e0, hf, Deferred.ofValue, Sem.run_bind, Sem.run_pure, Result.andThen_ok, invoke, Array.empty_append, Array.append_empty]
  rw [run_callFunc_extern h1 h2 h3 h4 h5, hr]
  rfl
end
/-- the first place of a byte, or -1 -/
def fidx : List Int → Int → Int
  | [], _ => -1
  | x :: l, c => if x = c then 0 else if fidx l c = -1 then -1 else fidx l c + 1
theorem sb_data (s : ByteArray) : sb s = s.data.toList.map fun b => (b.toNat : Int) := rfl
theorem byte_eq {b : UInt8} {c : Int} (h : 0 ≤ c ∧ c ≤ 255) : ((b == c.toNat.toUInt8) = true) ↔ (b.toNat : Int) = c := by
  rw [beq_iff_eq]
  have h1 : (c.toNat.toUInt8).toNat = c.toNat := by
    show (UInt8.ofNat c.toNat).toNat = _
    rw [UInt8.toNat_ofNat']; exact Nat.mod_eq_of_lt (by omega)
  constructor
  · intro e; rw [e, h1]; omega
  · intro e; apply UInt8.toNat_inj.1; rw [h1]; omega
theorem count_sb {c : Int} (h : 0 ≤ c ∧ c ≤ 255) : ∀ l : List UInt8, Lib.countByte l c.toNat.toUInt8 = (l.map fun b => (b.toNat : Int)).count c
  | [] => rfl
  | b :: l => by
    have ih := count_sb h l
    unfold Lib.countByte at ih ⊢
    rw [List.map_cons, List.count_cons, List.count_cons, ih]
    congr 1
    by_cases hb : (b.toNat : Int) = c
    · rw [if_pos ((byte_eq h).2 hb), if_pos (by simpa using hb)]
    · rw [if_neg (fun e => hb ((byte_eq h).1 e)), if_neg (by simpa using hb)]
theorem fidx_sb {c : Int} (h : 0 ≤ c ∧ c ≤ 255) : ∀ l : List UInt8, Lib.indexByte l c.toNat.toUInt8 = fidx (l.map fun b => (b.toNat : Int)) c
  | [] => rfl
  | b :: l => by
    have ih := fidx_sb h l
    rw [List.map_cons, Lib.indexByte, fidx, ih]
    by_cases hb : (b.toNat : Int) = c
    · rw [if_pos ((byte_eq h).2 hb), if_pos hb]
    · rw [if_neg (fun e => hb ((byte_eq h).1 e)), if_neg hb]
      simp
theorem run_cnt {P : Program} {w : World} (s : ByteArray) {c : Int} (h : 0 ≤ c ∧ c ≤ 255) : (Extern.BytealgCount.count [Value.string s, .int .u8 c].toArray).run P w = .ok (.int .i64 (((sb s).count c : Nat) : Int)) w := by
  have := Lib.run_countString (P := P) s c w
  rw [count_sb h] at this
  exact this
theorem run_fidx {P : Program} {w : World} (s : ByteArray) {c : Int} (h : 0 ≤ c ∧ c ≤ 255) : (Extern.BytealgIndexByte.indexByte [Value.string s, .int .u8 c].toArray).run P w = .ok (.int .i64 (fidx (sb s) c)) w := by
  have := Lib.run_indexByteString (P := P) s c w
  rw [fidx_sb h] at this
  exact this
end Go.V
