/- The disk as plain data: what each call makes of it. -/
namespace Go.Proofs.Ytipkeifpkemcdaa
set_option linter.unusedVariables false
set_option linter.unusedSimpArgs false

/-- sec: each sector's bytes, and is it bad; pend: what pends -/
structure DSt where
  sec : List (List UInt8 × Bool)
  pend : List (Nat × List UInt8)
  fuse : Int
  down : Bool
  works : Nat
  deriving Inhabited

def zeros : List UInt8 := List.replicate 64 0
def DSt.new (n : Nat) : DSt := { sec := List.replicate n (zeros, false), pend := [], fuse := -1, down := false, works := 0 }
/-- may a work be done? -/
def DSt.can (s : DSt) : Bool := !(s.down || s.fuse == 0)
def DSt.work (s : DSt) : DSt := if s.can then { s with fuse := max (s.fuse - 1) (-1), works := s.works + 1 } else { s with down := true }
def DSt.write (s : DSt) (at_ : Nat) (d : List UInt8) : DSt := if s.can then { s.work with pend := s.pend ++ [(at_, d)] } else s.work
/-- writes done, in order -/
def done (sec : List (List UInt8 × Bool)) (l : List (Nat × List UInt8)) : List (List UInt8 × Bool) := l.foldl (fun t x => t.set x.1 (x.2, false)) sec
def DSt.flush (s : DSt) : DSt := if s.can then { s.work with sec := done s.sec s.pend, pend := [] } else s.work
/-- 0: done, 1: lost, 2: torn -/
def fateOf (fates : List Int) (i : Nat) : Int := if i < fates.length then fates.getD i 0 % 3 else 1
def crashed (fates : List Int) (sec : List (List UInt8 × Bool)) : Nat → List (Nat × List UInt8) → List (List UInt8 × Bool)
  | _, [] => sec
  | i, x :: l => crashed fates (if fateOf fates i = 0 then sec.set x.1 (x.2, false) else if fateOf fates i = 2 then sec.set x.1 ([], true) else sec) (i + 1) l
def DSt.crash (s : DSt) (fates : List Int) : DSt := { s with sec := crashed fates s.sec 0 s.pend, pend := [], down := false, fuse := -1 }
/-- what the last pending write of a sector has -/
def lastOf (l : List (Nat × List UInt8)) (at_ : Nat) : Option (List UInt8) := (l.reverse.find? (fun x => x.1 == at_)).map (·.2)
/-- what a Read answers: bytes and an error's number -/
def DSt.read (s : DSt) (at_ : Int) : List UInt8 × Int :=
  if at_ < 0 ∨ (s.sec.length : Int) ≤ at_ then ([], 1)
  else if s.down then ([], 9)
  else match lastOf s.pend at_.toNat with
    | some d => (d, 0)
    | none => if (s.sec.getD at_.toNat default).2 then ([], 8) else ((s.sec.getD at_.toNat default).1, 0)
end Go.Proofs.Ytipkeifpkemcdaa
