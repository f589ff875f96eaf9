/- Reading terms, plainly: the judge's way and the program's. -/
import Derived.Test.YthbodgnoadlbcaaGreatDoorH1
namespace Go.Proofs.YthbodgnoadlbcaaGreatDoor.Asl
set_option linter.unusedVariables false
set_option linter.unusedSimpArgs false
set_option maxHeartbeats 4000000
def dlm (b : UInt8) : Bool := b == 32 || b == 41 || b == 40
def wordL (s : List UInt8) : List UInt8 := s.takeWhile fun b => !dlm b
def restL (s : List UInt8) : List UInt8 := s.dropWhile fun b => !dlm b
def Dl (r : List UInt8) : Prop := r = [] ∨ ∃ c r', r = c :: r' ∧ dlm c = true
def eatL (c : UInt8) : List UInt8 → Option (List UInt8)
  | [] => none
  | b :: r => if b = c then some r else none
def actsL : List Int := [-4, -3, -2, -1, 0, 1, 2, 3, 4]
def actOf (w : List UInt8) : Option Int := actsL.find? fun a => decide (actT a = w)
def opOf (w : List UInt8) : Int := if w = [97, 99, 116] then 1 else if w = [115, 117, 109] then 2 else if w = [112, 97, 114] then 3 else if w = [104, 105, 100, 101] then 4 else 0
def manyOf (op : Int) : Nat := if op = 2 ∨ op = 3 then 2 else 1
def nameL (op : Int) (r : List UInt8) : Option (Int × List UInt8) :=
  if op = 1 ∨ op = 4 then (eatL 32 r).bind fun r1 => (actOf (wordL r1)).bind fun a => if op = 4 ∧ a ≤ 0 then none else some (if op = 4 then a - 1 else a, restL r1)
  else some (0, r)
def leafL (w : List UInt8) : Option Tm := if w = [48] then some (.node 0 0 []) else if w = [88, 48] then some (.node 5 0 []) else if w = [88, 49] then some (.node 5 1 []) else if w = [88, 50] then some (.node 5 2 []) else none
def partsL (rd : List UInt8 → Option (Tm × List UInt8)) : Nat → List UInt8 → Option (List Tm × List UInt8)
  | 0, r => some ([], r)
  | k + 1, r => (partsL rd k r).bind fun x => (eatL 32 x.2).bind fun r2 => (rd r2).map fun y => (x.1 ++ [y.1], y.2)
def nodeL (rd : List UInt8 → Option (Tm × List UInt8)) (op : Int) (r : List UInt8) : Option (Tm × List UInt8) :=
  (nameL op r).bind fun x => (partsL rd (manyOf op) x.2).bind fun y => (eatL 41 y.2).map fun r4 => (.node op x.1 y.1, r4)
def readL : Nat → List UInt8 → Option (Tm × List UInt8)
  | 0, _ => none
  | _ + 1, [] => none
  | f + 1, c :: s1 => if c = 40 then (if opOf (wordL s1) = 0 then none else nodeL (readL f) (opOf (wordL s1)) (restL s1)) else (leafL (wordL (c :: s1))).map fun t => (t, restL (c :: s1))
/-- A scan: what is left of a text, how many nodes, whether it is bad. -/
structure Sc where
  s : List UInt8
  left : Int
  bad : Bool
def Sc.take (w : List UInt8) (r : Sc) : Option Sc := if w.isPrefixOf r.s = true then some ⟨r.s.drop w.length, r.left, r.bad⟩ else none
def Sc.must (w : List UInt8) (r : Sc) : Sc := (r.take w).getD ⟨r.s, r.left, true⟩
def Sc.node (r : Sc) : Sc := ⟨r.s, r.left - 1, r.bad || decide (r.left - 1 < 0)⟩
def Sc.act (r : Sc) : Int × Sc := ((actOf (wordL r.s)).getD 0, ⟨restL r.s, r.left, r.bad || !(actOf (wordL r.s)).isSome⟩)
def Sc.name (r : Sc) : Int × Sc := ((actOf (wordL r.s)).getD 0 - 1, ⟨restL r.s, r.left, r.bad || !(actOf (wordL r.s)).isSome || decide ((actOf (wordL r.s)).getD 0 ≤ 0)⟩)
def partS (rd : Sc → Tm × Sc) (x : List Tm × Sc) : List Tm × Sc := if (x.2.must [32]).bad = true then (x.1, x.2.must [32]) else (x.1 ++ [(rd (x.2.must [32])).1], (rd (x.2.must [32])).2)
def leafS (r : Sc) : Tm × Sc := ((leafL (wordL r.s)).getD (.node 0 0 []), ⟨restL r.s, r.left, r.bad || !(leafL (wordL r.s)).isSome⟩)
def bodyS (rd : Sc → Tm × Sc) (r : Sc) : Tm × Sc :=
  match r.take [40, 97, 99, 116, 32] with
  | some r1 => (.node 1 r1.act.1 (partS rd ([], r1.act.2)).1, (partS rd ([], r1.act.2)).2.must [41])
  | none => match r.take [40, 115, 117, 109] with
    | some r1 => (.node 2 0 (partS rd (partS rd ([], r1))).1, (partS rd (partS rd ([], r1))).2.must [41])
    | none => match r.take [40, 112, 97, 114] with
      | some r1 => (.node 3 0 (partS rd (partS rd ([], r1))).1, (partS rd (partS rd ([], r1))).2.must [41])
      | none => match r.take [40, 104, 105, 100, 101, 32] with
        | some r1 => (.node 4 r1.name.1 (partS rd ([], r1.name.2)).1, (partS rd ([], r1.name.2)).2.must [41])
        | none => leafS r
def termS : Nat → Sc → Tm × Sc
  | 0, r => (.node 0 0 [], r)
  | f + 1, r => if r.node.bad = true then (.node 0 0 [], r.node) else bodyS (termS f) r.node
/-- The text of a term, if it is one. -/
def Tm.text (t : Tm) : List UInt8 := if t.ok = true then t.txt else []
/-- The term of a text. -/
def readO (s : List UInt8) : Option Tm := ((readL 24 s).filter fun x => x.2.isEmpty && x.1.ok).map Prod.fst
end Go.Proofs.YthbodgnoadlbcaaGreatDoor.Asl
