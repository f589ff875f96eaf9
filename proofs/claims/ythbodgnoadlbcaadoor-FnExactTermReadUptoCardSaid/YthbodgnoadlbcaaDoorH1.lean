/- Texts of terms tell terms apart. -/
import Derived.Test.YthbodgnoadlbcaaDoorK1
import Derived.Test.YthbodgnoadlbcaaDoorTT
namespace Go.Proofs.YthbodgnoadlbcaaDoor.Asl
set_option linter.unusedVariables false
set_option linter.unusedSimpArgs false
set_option maxHeartbeats 4000000
theorem actT_cases {n : Int} (h : -4 ≤ n ∧ n ≤ 4) : (n = -4 ∧ actT n = [33, 100]) ∨ (n = -3 ∧ actT n = [33, 99]) ∨ (n = -2 ∧ actT n = [33, 98]) ∨ (n = -1 ∧ actT n = [33, 97]) ∨ (n = 0 ∧ actT n = [116, 97, 117]) ∨ (n = 1 ∧ actT n = [97]) ∨ (n = 2 ∧ actT n = [98]) ∨ (n = 3 ∧ actT n = [99]) ∨ (n = 4 ∧ actT n = [100]) := by
  have c : n = -4 ∨ n = -3 ∨ n = -2 ∨ n = -1 ∨ n = 0 ∨ n = 1 ∨ n = 2 ∨ n = 3 ∨ n = 4 := by omega
  rcases c with rfl | rfl | rfl | rfl | rfl | rfl | rfl | rfl | rfl <;> decide
theorem actT_pf {n m : Int} (hn : -4 ≤ n ∧ n ≤ 4) (hm : -4 ≤ m ∧ m ≤ 4) {r r' : List UInt8} (h : actT n ++ r = actT m ++ r') : n = m ∧ r = r' := by
  rcases actT_cases hn with ⟨rfl, e⟩ | ⟨rfl, e⟩ | ⟨rfl, e⟩ | ⟨rfl, e⟩ | ⟨rfl, e⟩ | ⟨rfl, e⟩ | ⟨rfl, e⟩ | ⟨rfl, e⟩ | ⟨rfl, e⟩ <;>
    rcases actT_cases hm with ⟨rfl, e'⟩ | ⟨rfl, e'⟩ | ⟨rfl, e'⟩ | ⟨rfl, e'⟩ | ⟨rfl, e'⟩ | ⟨rfl, e'⟩ | ⟨rfl, e'⟩ | ⟨rfl, e'⟩ | ⟨rfl, e'⟩ <;>
    simp only [e, e'] at h <;> simp at h <;> exact ⟨rfl, h⟩
theorem decB_cases {n : Int} (h : 0 ≤ n ∧ n ≤ 2) : (n = 0 ∧ decB n = [48]) ∨ (n = 1 ∧ decB n = [49]) ∨ (n = 2 ∧ decB n = [50]) := by
  have c : n = 0 ∨ n = 1 ∨ n = 2 := by omega
  rcases c with rfl | rfl | rfl <;> decide
theorem txt_0 (n : Int) (ps : List Tm) : (Tm.node 0 n ps).txt = [48] := by simp [Tm.txt]
theorem txt_1 (n : Int) (p : Tm) : (Tm.node 1 n [p]).txt = 40 :: 97 :: 99 :: 116 :: 32 :: (actT n ++ (32 :: (p.txt ++ [41]))) := by simp [Tm.txt, Tm.txts, headT]
theorem txt_2 (n : Int) (p q : Tm) : (Tm.node 2 n [p, q]).txt = 40 :: 115 :: 117 :: 109 :: 32 :: (p.txt ++ (32 :: (q.txt ++ [41]))) := by simp [Tm.txt, Tm.txts, headT]
theorem txt_3 (n : Int) (p q : Tm) : (Tm.node 3 n [p, q]).txt = 40 :: 112 :: 97 :: 114 :: 32 :: (p.txt ++ (32 :: (q.txt ++ [41]))) := by simp [Tm.txt, Tm.txts, headT]
theorem txt_4 (n : Int) (p : Tm) : (Tm.node 4 n [p]).txt = 40 :: 104 :: 105 :: 100 :: 101 :: 32 :: (actT (n + 1) ++ (32 :: (p.txt ++ [41]))) := by simp [Tm.txt, Tm.txts, headT]
theorem txt_5 (n : Int) (ps : List Tm) : (Tm.node 5 n ps).txt = 88 :: decB n := by simp [Tm.txt]
theorem len_two {α : Type} {l : List α} (h : l.length = 2) : ∃ p q, l = [p, q] := by
  rcases l with _ | ⟨p, _ | ⟨q, _ | _⟩⟩ <;> simp at h
  exact ⟨p, q, rfl⟩
end Go.Proofs.YthbodgnoadlbcaaDoor.Asl
