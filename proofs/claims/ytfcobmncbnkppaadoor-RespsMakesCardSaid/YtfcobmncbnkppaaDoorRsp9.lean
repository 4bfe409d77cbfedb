/- RespsKnown: the walk. -/
import Derived.Test.YtfcobmncbnkppaaDoorRsp8
namespace Go.Proofs.YtfcobmncbnkppaaDoor
open Go.RowKit
set_option linter.unusedVariables false
set_option linter.unusedSimpArgs false
set_option maxRecDepth 100000
set_option maxHeartbeats 3200000
theorem qSize9 : (Tryd.prog.info? 31).map (·.size) = some 8 := by kernel_rfl
def xq (g : Nat) : RqIV := { op := 10, has := true, id := [120], ids := ⟨some ⟨g, 0, none⟩, 1, 1⟩ }
theorem of0 {v : RsIV} {g : Nat} {i : Itm} (h : v.rq = ofP (xq g).rq 0 i) : v.status = 0 ∧ v.hasPay = true ∧ v.hasOp = true ∧ v.op = 10 ∧ v.id = [120] :=
  ⟨congrArg RsI.status h, congrArg RsI.hasPay h, congrArg RsI.hasOp h, congrArg RsI.op h, congrArg RsI.id h⟩
theorem of1 {v : RsIV} {g : Nat} {i : Itm} (h : v.rq = ofP (xq g).rq 1 i) : v.status = 1 ∧ v.reason = 1 ∧ v.hasPay = false ∧ v.pay.tag = 0 :=
  ⟨congrArg RsI.status h, congrArg RsI.reason h, congrArg RsI.hasPay h, by
    have h1 : v.pay.it = {} := congrArg RsI.pay h
    have h2 := congrArg Itm.tag h1
    rw [ItV.it_eq] at h2
    exact h2⟩
theorem undo0 {v : RsIV} {g : Nat} (h : v.rq = undoP (xq g).rq) : v.status = 3 ∧ v.reason = 0 := ⟨congrArg RsI.status h, congrArg RsI.reason h⟩
theorem w99 : wordS 99 = ⟨#[]⟩ := by kernel_rfl
theorem w256 : wordS 256 = ⟨#[71, 101, 110, 101, 114, 97, 108]⟩ := by kernel_rfl
theorem w0 : wordS 0 = ⟨#[70, 105, 110, 101]⟩ := by kernel_rfl
theorem qBuild3 (op : Int) (h : Bool) (s : Sl) (id : List UInt8) (w : World) : (Instr.build 31 #[(0, .int .i64 op), (1, .bool h), (2, .slice s.a s.n s.c)]).run Tryd.prog w = .ok (.agg (RqIV.arr { op := op, has := h, id := id, ids := s })) w := by kernel_rfl
theorem iBuild1 (a : Int) (w : World) : (Instr.build 29 #[(0, .int .i64 a)]).run Tryd.prog w = .ok (.agg (ItV.arr { tag := a })) w := by kernel_rfl
theorem iBuild2 (a b : Int) (w : World) : (Instr.build 29 #[(0, .int .i64 a), (1, .int .i64 b)]).run Tryd.prog w = .ok (.agg (ItV.arr { tag := a, typ := b })) w := by kernel_rfl
end Go.Proofs.YtfcobmncbnkppaaDoor
