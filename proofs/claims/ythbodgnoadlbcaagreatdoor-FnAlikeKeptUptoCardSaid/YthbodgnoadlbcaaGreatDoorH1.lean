/- Texts of terms tell terms apart. -/
import Derived.Test.YthbodgnoadlbcaaGreatDoorK1
import Derived.Test.YthbodgnoadlbcaaGreatDoorTT
namespace Go.Proofs.YthbodgnoadlbcaaGreatDoor.Asl
set_option linter.unusedVariables false
set_option linter.unusedSimpArgs false
set_option maxHeartbeats 4000000
theorem actT_cases {n : Int} (h : -4 ≤ n ∧ n ≤ 4) : (n = -4 ∧ actT n = [33, 100]) ∨ (n = -3 ∧ actT n = [33, 99]) ∨ (n = -2 ∧ actT n = [33, 98]) ∨ (n = -1 ∧ actT n = [33, 97]) ∨ (n = 0 ∧ actT n = [116, 97, 117]) ∨ (n = 1 ∧ actT n = [97]) ∨ (n = 2 ∧ actT n = [98]) ∨ (n = 3 ∧ actT n = [99]) ∨ (n = 4 ∧ actT n = [100]) := by
  have c : n = -4 ∨ n = -3 ∨ n = -2 ∨ n = -1 ∨ n = 0 ∨ n = 1 ∨ n = 2 ∨ n = 3 ∨ n = 4 := by omega
  rcases c with rfl | rfl | rfl | rfl | rfl | rfl | rfl | rfl | rfl <;> decide
theorem actT_pf {n m : Int} (hn : -4 ≤ n ∧ n ≤ 4) (hm : -4 ≤ m ∧ m ≤ 4) {r r' : List UInt8} (h : actT n ++ r = actT m ++ r') : n = m ∧ r = r' := by
  rcases actT_cases hn with ⟨rfl, e⟩ | ⟨rfl, e⟩ | ⟨rfl, e⟩ | ⟨rfl, e⟩ | ⟨rfl, e⟩ | ⟨rfl, e⟩ | ⟨rfl, e⟩ | ⟨rfl, e⟩ | ⟨rfl, e⟩ <;>
    rcases actT_cases hm with ⟨rfl, e'⟩ | ⟨rfl, e'⟩ | ⟨rfl, e'⟩ | ⟨rfl, e'⟩ | ⟨rfl, e'⟩ | ⟨rfl, e'⟩ | ⟨rfl, e'⟩ | ⟨rfl, e'⟩ | ⟨rfl, e'⟩ <;>
    simp only [e, e'] at h <;> simp at h <;> exact ⟨rfl, h⟩
theorem decB_cases {n : Int} (h : 0 ≤ n ∧ n ≤ 2) : (n = 0 ∧ decB n = [48]) ∨ (n = 1 ∧ decB n = [49]) ∨ (n = 2 ∧ decB n = [50]) := by
  have c : n = 0 ∨ n = 1 ∨ n = 2 := by omega
  rcases c with rfl | rfl | rfl <;> decide
theorem decB_pf {n m : Int} (hn : 0 ≤ n ∧ n ≤ 2) (hm : 0 ≤ m ∧ m ≤ 2) {r r' : List UInt8} (h : decB n ++ r = decB m ++ r') : n = m ∧ r = r' := by
  rcases decB_cases hn with ⟨rfl, e⟩ | ⟨rfl, e⟩ | ⟨rfl, e⟩ <;> rcases decB_cases hm with ⟨rfl, e'⟩ | ⟨rfl, e'⟩ | ⟨rfl, e'⟩ <;>
    simp only [e, e'] at h <;> simp at h <;> exact ⟨rfl, h⟩
theorem txt_0 (n : Int) (ps : List Tm) : (Tm.node 0 n ps).txt = [48] := by simp [Tm.txt]
theorem txt_1 (n : Int) (p : Tm) : (Tm.node 1 n [p]).txt = 40 :: 97 :: 99 :: 116 :: 32 :: (actT n ++ (32 :: (p.txt ++ [41]))) := by simp [Tm.txt, Tm.txts, headT]
theorem txt_2 (n : Int) (p q : Tm) : (Tm.node 2 n [p, q]).txt = 40 :: 115 :: 117 :: 109 :: 32 :: (p.txt ++ (32 :: (q.txt ++ [41]))) := by simp [Tm.txt, Tm.txts, headT]
theorem txt_3 (n : Int) (p q : Tm) : (Tm.node 3 n [p, q]).txt = 40 :: 112 :: 97 :: 114 :: 32 :: (p.txt ++ (32 :: (q.txt ++ [41]))) := by simp [Tm.txt, Tm.txts, headT]
theorem txt_4 (n : Int) (p : Tm) : (Tm.node 4 n [p]).txt = 40 :: 104 :: 105 :: 100 :: 101 :: 32 :: (actT (n + 1) ++ (32 :: (p.txt ++ [41]))) := by simp [Tm.txt, Tm.txts, headT]
theorem txt_5 (n : Int) (ps : List Tm) : (Tm.node 5 n ps).txt = 88 :: decB n := by simp [Tm.txt]
theorem len_two {α : Type} {l : List α} (h : l.length = 2) : ∃ p q, l = [p, q] := by
  rcases l with _ | ⟨p, _ | ⟨q, _ | _⟩⟩ <;> simp at h
  exact ⟨p, q, rfl⟩
theorem txt_pf (t : Tm) : ∀ u : Tm, t.shape = true → u.shape = true → ∀ r r' : List UInt8, t.txt ++ r = u.txt ++ r' → t = u ∧ r = r' := by
  induction t using Tm.ind with
  | _ op n ps ih =>
    rintro ⟨op', n', ps'⟩ ht hu r r' h
    obtain ⟨a, hp⟩ := Tm.shape_node ht
    obtain ⟨b, hq⟩ := Tm.shape_node hu
    rw [nodeOk_iff] at a b
    rcases a with ⟨rfl, rfl, hl⟩ | ⟨rfl, hn, hl⟩ | ⟨rfl | rfl, rfl, hl⟩ | ⟨rfl, hn, hl⟩ | ⟨rfl, hn, hl⟩ <;>
      rcases b with ⟨rfl, rfl, hl'⟩ | ⟨rfl, hn', hl'⟩ | ⟨rfl | rfl, rfl, hl'⟩ | ⟨rfl, hn', hl'⟩ | ⟨rfl, hn', hl'⟩
    all_goals try (exfalso; simp [Tm.txt, headT] at h; done)
    · obtain rfl := List.length_eq_zero_iff.mp hl
      obtain rfl := List.length_eq_zero_iff.mp hl'
      rw [txt_0] at h; simp at h; exact ⟨rfl, h⟩
    · obtain ⟨p, rfl⟩ := List.length_eq_one_iff.mp hl
      obtain ⟨q, rfl⟩ := List.length_eq_one_iff.mp hl'
      rw [txt_1, txt_1] at h
      simp only [List.cons_append, List.append_assoc, List.cons.injEq, true_and] at h
      replace h := actT_pf hn hn' h
      obtain ⟨e1, h⟩ := h
      subst e1
      simp only [List.cons.injEq, true_and] at h
      replace h := ih p (by simp) q (hp p (by simp)) (hq q (by simp)) _ _ h
      obtain ⟨e1, h⟩ := h
      subst e1
      simp at h; exact ⟨rfl, h⟩
    · obtain ⟨p, p2, rfl⟩ := len_two hl
      obtain ⟨q, q2, rfl⟩ := len_two hl'
      rw [txt_2, txt_2] at h
      simp only [List.cons_append, List.append_assoc, List.cons.injEq, true_and] at h
      replace h := ih p (by simp) q (hp p (by simp)) (hq q (by simp)) _ _ h
      obtain ⟨e1, h⟩ := h
      subst e1
      simp only [List.cons.injEq, true_and] at h
      replace h := ih p2 (by simp) q2 (hp p2 (by simp)) (hq q2 (by simp)) _ _ h
      obtain ⟨e1, h⟩ := h
      subst e1
      simp at h; exact ⟨rfl, h⟩
    · obtain ⟨p, p2, rfl⟩ := len_two hl
      obtain ⟨q, q2, rfl⟩ := len_two hl'
      rw [txt_3, txt_3] at h
      simp only [List.cons_append, List.append_assoc, List.cons.injEq, true_and] at h
      replace h := ih p (by simp) q (hp p (by simp)) (hq q (by simp)) _ _ h
      obtain ⟨e1, h⟩ := h
      subst e1
      simp only [List.cons.injEq, true_and] at h
      replace h := ih p2 (by simp) q2 (hp p2 (by simp)) (hq q2 (by simp)) _ _ h
      obtain ⟨e1, h⟩ := h
      subst e1
      simp at h; exact ⟨rfl, h⟩
    · obtain ⟨p, rfl⟩ := List.length_eq_one_iff.mp hl
      obtain ⟨q, rfl⟩ := List.length_eq_one_iff.mp hl'
      rw [txt_4, txt_4] at h
      simp only [List.cons_append, List.append_assoc, List.cons.injEq, true_and] at h
      replace h := actT_pf (show -4 ≤ n + 1 ∧ n + 1 ≤ 4 by omega) (show -4 ≤ n' + 1 ∧ n' + 1 ≤ 4 by omega) h
      obtain ⟨e, h⟩ := h
      have en : n = n' := by omega
      subst en
      simp only [List.cons.injEq, true_and] at h
      replace h := ih p (by simp) q (hp p (by simp)) (hq q (by simp)) _ _ h
      obtain ⟨e1, h⟩ := h
      subst e1
      simp at h; exact ⟨rfl, h⟩
    · obtain rfl := List.length_eq_zero_iff.mp hl
      obtain rfl := List.length_eq_zero_iff.mp hl'
      rw [txt_5, txt_5] at h
      simp only [List.cons_append, List.cons.injEq, true_and] at h
      replace h := decB_pf hn hn' h
      obtain ⟨e1, h⟩ := h
      subst e1
      exact ⟨rfl, h⟩
theorem txt_inj {t u : Tm} (ht : t.shape = true) (hu : u.shape = true) (h : t.txt = u.txt) : t = u :=
  (txt_pf t u ht hu [] [] (by rw [h])).1
end Go.Proofs.YthbodgnoadlbcaaGreatDoor.Asl
