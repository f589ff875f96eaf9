/- The text of a term, as the judge says it. -/
import Derived.Test.YthbodgnoadlbcaaDoorK0
import Derived.Test.YthbodgnoadlbcaaDoorTT
import Derived.Test.YthbodgnoadlbcaaDoorTU
namespace Go.Proofs.YthbodgnoadlbcaaDoor.Asl
open Go.RowKit Go.Proofs.YthbodgnoadlbcaaDoorW.PrintLast
set_option linter.unusedVariables false
set_option linter.unusedSimpArgs false
attribute [local irreducible] WP WL andThen inBlock noGoto atEnd ACall DA DL PO Hold nodeOk
set_option maxHeartbeats 4000000
set_option synthInstance.maxHeartbeats 400000
set_option synthInstance.maxSize 10000
def decB (n : Int) : List UInt8 := [UInt8.ofNat (48 + n).toNat]
def letB (n : Int) : UInt8 := UInt8.ofNat (97 + n).toNat
def actT (a : Int) : List UInt8 := if a = 0 then [116, 97, 117] else if a < 0 then [33, letB (-a - 1)] else [letB (a - 1)]
def headT (op n : Int) : List UInt8 :=
  if op = 1 then [40, 97, 99, 116, 32] ++ actT n else if op = 2 then [40, 115, 117, 109] else if op = 3 then [40, 112, 97, 114] else [40, 104, 105, 100, 101, 32] ++ actT (n + 1)
mutual
def Tm.txt : Tm → List UInt8 | .node op n ps => if op = 0 then [48] else if op = 5 then [88] ++ decB n else headT op n ++ Tm.txts ps ++ [41]
def Tm.txts : List Tm → List UInt8 | [] => [] | p :: ps => ([32] ++ p.txt) ++ Tm.txts ps
end
theorem Tm.txts_append (a b : List Tm) : Tm.txts (a ++ b) = Tm.txts a ++ Tm.txts b := by
  induction a with
  | nil => rfl
  | cons p a ih => simp only [List.cons_append, Tm.txts, ih, List.append_assoc]
theorem actT_len (a : Int) : (actT a).length ≤ 3 := by unfold actT; split; simp; split <;> simp
theorem headT_len (op n : Int) : (headT op n).length ≤ 9 := by
  unfold headT
  have := actT_len n
  have := actT_len (n + 1)
  split
  · simp only [List.length_append, List.length_cons, List.length_nil]; omega
  · split
    · simp
    · split
      · simp
      · simp only [List.length_append, List.length_cons, List.length_nil]; omega
mutual
theorem Tm.txt_len : ∀ t : Tm, t.txt.length + 1 ≤ 12 * t.cnt
  | .node op n ps => by
    have h1 := Tm.txts_len ps
    have h2 := headT_len op n
    simp only [Tm.txt, Tm.cnt]
    split
    · simp; omega
    · split
      · simp [decB]; omega
      · simp only [List.length_append, List.length_cons, List.length_nil]; omega
theorem Tm.txts_len : ∀ ps : List Tm, (Tm.txts ps).length ≤ 12 * Tm.cnts ps
  | [] => by simp [Tm.txts]
  | p :: ps => by
    have h1 := Tm.txt_len p
    have h2 := Tm.txts_len ps
    have h3 := Tm.cnt_pos p
    simp only [Tm.txts, Tm.cnts, List.length_append, List.length_cons, List.length_nil]; omega
end
abbrev wordsB : List ByteArray := [ofL [], ofL [97, 99, 116], ofL [115, 117, 109], ofL [112, 97, 114], ofL [104, 105, 100, 101]]
section
variable {base : Nat}
def CTx (base : Nat) (f : FuncId) (t : Tm) : Prop := ∀ (σ : Store) (s : AV), RTs σ s t.ps → ACall Tryd.prog base f [.agg [I t.op, I t.n, s]] σ (fun _ => False) (Ret σ (Str (ofL t.txt)))
end
end Go.Proofs.YthbodgnoadlbcaaDoor.Asl
