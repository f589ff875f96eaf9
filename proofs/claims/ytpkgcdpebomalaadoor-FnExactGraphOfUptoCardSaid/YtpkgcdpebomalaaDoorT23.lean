/- Names exchanged: shape and number of names are kept. -/
import Derived.Test.YtpkgcdpebomalaaDoorT22
import Derived.Test.YtpkgcdpebomalaaDoorTU
namespace Go.Proofs.YtpkgcdpebomalaaDoor.Asl
open Go.RowKit
set_option linter.unusedVariables false
set_option linter.unusedSimpArgs false
set_option maxHeartbeats 4000000
theorem swA_rng {x a b : Int} (ha : 0 ≤ a ∧ a ≤ 3) (hb : 0 ≤ b ∧ b ≤ 3) (hx : -4 ≤ x ∧ x ≤ 4) : -4 ≤ swA x a b ∧ swA x a b ≤ 4 := by
  unfold swA swN; repeat' split
  all_goals omega
mutual
theorem Tm.sw_shape {a b : Int} (ha : 0 ≤ a ∧ a ≤ 3) (hb : 0 ≤ b ∧ b ≤ 3) : ∀ t : Tm, t.shape = true → (t.sw a b).shape = true
  | .node op n ps, h => by
    simp only [Tm.sw, Tm.shape, Bool.and_eq_true] at h ⊢
    refine ⟨?_, Tm.sws_shapes ha hb ps h.2⟩
    have hl : (Tm.sws a b ps).length = ps.length := by rw [Tm.sws_eq, List.length_map]
    have h1 := h.1
    rw [hl, nodeOk_iff]
    rw [nodeOk_iff] at h1
    have q1 := swA_rng (x := n) ha hb
    have q2 := swN_rng (k := n) ha hb
    by_cases e1 : op = 1
    · subst e1; rw [if_pos rfl]; omega
    · by_cases e4 : op = 4
      · subst e4; rw [if_neg (by decide), if_pos rfl]; omega
      · rw [if_neg e1, if_neg e4]; omega
theorem Tm.sws_shapes {a b : Int} (ha : 0 ≤ a ∧ a ≤ 3) (hb : 0 ≤ b ∧ b ≤ 3) : ∀ ps : List Tm, Tm.shapes ps = true → Tm.shapes (Tm.sws a b ps) = true
  | [], _ => rfl
  | p :: ps, h => by
    simp only [Tm.sws, Tm.shapes, Bool.and_eq_true] at h ⊢
    exact ⟨Tm.sw_shape ha hb p h.1, Tm.sws_shapes ha hb ps h.2⟩
end
theorem Tm.sw_ok {a b : Int} (ha : 0 ≤ a ∧ a ≤ 3) (hb : 0 ≤ b ∧ b ≤ 3) {t : Tm} (h : t.ok = true) : (t.sw a b).ok = true := by
  unfold Tm.ok at h ⊢
  simp only [Bool.and_eq_true, decide_eq_true_eq] at h ⊢
  have e : (t.sw a b).cnt = t.cnt := by
    have h1 : ∀ t : Tm, (t.sw a b).cnt = t.cnt := fun t => by
      refine Tm.ind (P := fun t => (t.sw a b).cnt = t.cnt) ?_ t
      intro op n ps ih
      simp only [Tm.sw, Tm.cnt]
      congr 1
      induction ps with
      | nil => rfl
      | cons p ps ihp => simp only [Tm.sws, Tm.cnts]; rw [ih p (by simp), ihp fun q hq => ih q (by simp [hq])]
    exact h1 t
  exact ⟨by rw [e]; exact h.1, Tm.sw_shape ha hb t h.2⟩
theorem swA_hits {n k a b : Int} (ha : 0 ≤ a ∧ a ≤ 3) (hb : 0 ≤ b ∧ b ≤ 3) (hk : 0 ≤ k ∧ k ≤ 3) : (swA n a b ≠ 0 ∧ max (swA n a b) (-swA n a b) - 1 = k) ↔ (n ≠ 0 ∧ max n (-n) - 1 = swN k a b) := by
  rw [Int.max_def, Int.max_def]
  unfold swA swN
  repeat' split
  all_goals omega
theorem swN_hits {n k a b : Int} : swN n a b = k ↔ n = swN k a b := by
  constructor
  · rintro rfl; exact swN_inv.symm
  · rintro rfl; exact swN_inv
mutual
theorem Tm.fr_sw {a b : Int} (ha : 0 ≤ a ∧ a ≤ 3) (hb : 0 ≤ b ∧ b ≤ 3) {k K : Nat} (hk : k ≤ 3) (hK : (K : Int) = swN k a b) : ∀ t : Tm, (t.sw a b).fr k = t.fr K
  | .node op n ps => by
    simp only [Tm.sw, Tm.fr]
    rw [Tm.frs_sw ha hb hk hK ps, hK]
    by_cases e1 : op = 1
    · subst e1
      rw [if_pos rfl, if_neg (by simp), if_neg (by simp)]
      congr 1
      have := swA_hits (n := n) (k := (k : Int)) ha hb (by omega)
      rw [decide_eq_decide]
      simp only [true_and]
      exact this
    · by_cases e4 : op = 4
      · subst e4
        have e : (if (4 : Int) = 1 then swA n a b else if (4 : Int) = 4 then swN n a b else n) = swN n a b := by rw [if_neg (by decide), if_pos rfl]
        rw [e]
        have := swN_hits (n := n) (k := (k : Int)) (a := a) (b := b)
        by_cases h : swN n a b = (k : Int)
        · rw [if_pos ⟨rfl, h⟩, if_pos ⟨rfl, this.1 h⟩]
        · rw [if_neg (fun q => h q.2), if_neg (fun q => h (this.2 q.2))]
          simp
      · simp [e1, e4]
theorem Tm.frs_sw {a b : Int} (ha : 0 ≤ a ∧ a ≤ 3) (hb : 0 ≤ b ∧ b ≤ 3) {k K : Nat} (hk : k ≤ 3) (hK : (K : Int) = swN k a b) : ∀ ps : List Tm, Tm.frs k (Tm.sws a b ps) = Tm.frs K ps
  | [] => rfl
  | p :: ps => by simp only [Tm.sws, Tm.frs]; rw [Tm.fr_sw ha hb hk hK p, Tm.frs_sw ha hb hk hK ps]
end
theorem Tm.names_len_ok {t : Tm} (h : t.ok = true) : t.names.length = (t.fr 0).toNat + (t.fr 1).toNat + (t.fr 2).toNat + (t.fr 3).toNat := by
  simp only [Tm.names, Tm.namesTo, h, Bool.true_and, List.length_append]
  cases t.fr 0 <;> cases t.fr 1 <;> cases t.fr 2 <;> cases t.fr 3 <;> rfl
theorem Tm.names_sw {a b : Int} (ha : 0 ≤ a ∧ a ≤ 3) (hb : 0 ≤ b ∧ b ≤ 3) {t : Tm} (h : t.ok = true) : (t.sw a b).names.length = t.names.length := by
  have hK : ∀ k : Nat, k ≤ 3 → (t.sw a b).fr k = t.fr (swN k a b).toNat := fun k hk => Tm.fr_sw ha hb hk (Int.toNat_of_nonneg (swN_rng ha hb ⟨by omega, by omega⟩).1) t
  rw [Tm.names_len_ok (Tm.sw_ok ha hb h), Tm.names_len_ok h, hK 0 (by decide), hK 1 (by decide), hK 2 (by decide), hK 3 (by decide)]
  have h1 : a = 0 ∨ a = 1 ∨ a = 2 ∨ a = 3 := by omega
  have h2 : b = 0 ∨ b = 1 ∨ b = 2 ∨ b = 3 := by omega
  rcases h1 with rfl | rfl | rfl | rfl <;> rcases h2 with rfl | rfl | rfl | rfl <;> simp [swN] <;> omega
end Go.Proofs.YtpkgcdpebomalaaDoor.Asl
