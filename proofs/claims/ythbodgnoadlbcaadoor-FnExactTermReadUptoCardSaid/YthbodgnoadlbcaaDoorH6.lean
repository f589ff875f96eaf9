/- Reading terms: what the walk of the judge asks. -/
import Derived.Test.YthbodgnoadlbcaaDoorH4
namespace Go.Proofs.YthbodgnoadlbcaaDoor.Asl
set_option linter.unusedVariables false
set_option linter.unusedSimpArgs false
theorem toNat_eq (b c : UInt8) : ((b.toNat : Int) = (c.toNat : Int)) ↔ b = c :=
  ⟨fun h => UInt8.toNat_inj.mp (by omega), fun h => by rw [h]⟩
theorem getD_head (c : UInt8) (r : List UInt8) : (c :: r).getD 0 0 = c := rfl
theorem eat_no {c : UInt8} {r : List UInt8} (h : ¬ ((r.getD 0 0).toNat : Int) = (c.toNat : Int)) : eatL c r = none := by
  cases r with
  | nil => rfl
  | cons b r => rw [getD_head, toNat_eq] at h; simp [eatL, h]
theorem eat_yes {c : UInt8} {r : List UInt8} (h0 : ¬ r = []) (h : ((r.getD 0 0).toNat : Int) = (c.toNat : Int)) : eatL c r = some (r.drop 1) := by
  cases r with
  | nil => exact absurd rfl h0
  | cons b r => rw [getD_head, toNat_eq] at h; subst h; simp [eatL]
theorem readL_nil (f : Nat) : readL f [] = none := by cases f <;> rfl
theorem readL_leaf (f : Nat) {s : List UInt8} (h0 : ¬ s = []) (h : ¬ ((s.getD 0 0).toNat : Int) = 40) : readL (f + 1) s = (leafL (wordL s)).map fun t => (t, restL s) := by
  cases s with
  | nil => exact absurd rfl h0
  | cons b r =>
    have hb : ¬ b = 40 := fun e => h (by rw [getD_head, e]; rfl)
    simp only [readL, if_neg hb]
theorem readL_node (f : Nat) {s : List UInt8} (h0 : ¬ s = []) (h : ((s.getD 0 0).toNat : Int) = 40) : readL (f + 1) s = if opOf (wordL (s.drop 1)) = 0 then none else nodeL (readL f) (opOf (wordL (s.drop 1))) (restL (s.drop 1)) := by
  cases s with
  | nil => exact absurd rfl h0
  | cons b r =>
    have hb : b = 40 := (toNat_eq b 40).mp (by rw [getD_head] at h; exact h)
    subst hb
    simp only [readL, if_true, List.drop_succ_cons, List.drop_zero]
theorem leaf_zero : leafL [48] = some (.node 0 0 []) := by simp [leafL]
theorem leaf_hit {w : List UInt8} {k : Nat} (hk : k < 3) (h : w = [88] ++ decB (k : Int)) : leafL w = some (.node 5 (k : Int) []) := by
  rcases (by omega : k = 0 ∨ k = 1 ∨ k = 2) with rfl | rfl | rfl <;> subst h <;> simp [leafL, decB]
theorem leaf_no {w : List UInt8} (h0 : ¬ w = [48]) (h : ∀ k : Nat, k < 3 → ¬ w = [88] ++ decB (k : Int)) : leafL w = none := by
  have h1 := h 0 (by omega)
  have h2 := h 1 (by omega)
  have h3 := h 2 (by omega)
  simp [decB] at h1 h2 h3
  simp [leafL, h0, h1, h2, h3]
def wdL (k : Nat) : List UInt8 := if k = 1 then [97, 99, 116] else if k = 2 then [115, 117, 109] else if k = 3 then [112, 97, 114] else if k = 4 then [104, 105, 100, 101] else []
theorem opOf_wd {w : List UInt8} {k : Nat} (h1 : 1 ≤ k) (h2 : k ≤ 4) : w = wdL k ↔ opOf w = (k : Int) := by
  unfold opOf
  rcases (by omega : k = 1 ∨ k = 2 ∨ k = 3 ∨ k = 4) with rfl | rfl | rfl | rfl <;> simp only [wdL] <;> (repeat' split) <;> simp_all
theorem opOf_rng (w : List UInt8) : 0 ≤ opOf w ∧ opOf w ≤ 4 := by
  unfold opOf
  repeat' split
  all_goals decide
theorem opOf_step {w : List UInt8} {k : Nat} (h1 : 1 ≤ k) (h2 : k ≤ 4) (e : w = wdL k) : (k : Int) = if opOf w < ((k + 1 : Nat) : Int) then opOf w else 0 := by
  have := (opOf_wd h1 h2).mp e
  rw [if_pos (by omega), this]
theorem opOf_skip {w : List UInt8} {k : Nat} (h1 : 1 ≤ k) (h2 : k ≤ 4) (e : ¬ w = wdL k) : (if opOf w < (k : Int) then opOf w else 0) = if opOf w < ((k + 1 : Nat) : Int) then opOf w else 0 := by
  have h3 : ¬ opOf w = (k : Int) := fun h => e ((opOf_wd h1 h2).mpr h)
  by_cases h : opOf w < (k : Int)
  · rw [if_pos h, if_pos (by omega)]
  · rw [if_neg h, if_neg (by omega)]
theorem partsL_no {rd : List UInt8 → Option (Tm × List UInt8)} {k : Nat} {r : List UInt8} (h : partsL rd k r = none) {m : Nat} (hm : k ≤ m) : partsL rd m r = none := by
  induction m with
  | zero => obtain rfl : k = 0 := by omega
            exact h
  | succ m ih =>
    by_cases e : k = m + 1
    · subst e; exact h
    · simp [partsL, ih (by omega)]
theorem restL_len (s : List UInt8) : (restL s).length ≤ s.length := by
  have := congrArg List.length (word_rest s)
  rw [List.length_append] at this
  omega
section
variable {rd : List UInt8 → Option (Tm × List UInt8)} {k : Nat} {r q q2 q3 : List UInt8} {xs : List Tm} {t : Tm} {op n a : Int}
theorem parts_eat (h : partsL rd k r = some (xs, q)) (e : eatL 32 q = none) : partsL rd (k + 1) r = none := by simp [partsL, h, e]
theorem parts_sub (h : partsL rd k r = some (xs, q)) (e : eatL 32 q = some q2) (e2 : rd q2 = none) : partsL rd (k + 1) r = none := by simp [partsL, h, e, e2]
theorem parts_ok (h : partsL rd k r = some (xs, q)) (e : eatL 32 q = some q2) (e2 : rd q2 = some (t, q3)) : partsL rd (k + 1) r = some (xs ++ [t], q3) := by simp [partsL, h, e, e2]
theorem node_name (h : nameL op r = none) : nodeL rd op r = none := by simp [nodeL, h]
theorem node_parts (h : nameL op r = some (n, q)) (e : partsL rd (manyOf op) q = none) : nodeL rd op r = none := by simp [nodeL, h, e]
theorem node_end (h : nameL op r = some (n, q)) (e : partsL rd (manyOf op) q = some (xs, q2)) (e2 : eatL 41 q2 = none) : nodeL rd op r = none := by simp [nodeL, h, e, e2]
theorem node_ok (h : nameL op r = some (n, q)) (e : partsL rd (manyOf op) q = some (xs, q2)) (e2 : eatL 41 q2 = some q3) : nodeL rd op r = some (.node op n xs, q3) := by simp [nodeL, h, e, e2]
theorem name_none (h1 : ¬ op = 1) (h4 : ¬ op = 4) : nameL op r = some (0, r) := by unfold nameL; rw [if_neg (by omega)]
theorem name_eat (h : op = 1 ∨ op = 4) (e : eatL 32 r = none) : nameL op r = none := by unfold nameL; rw [if_pos h, e]; rfl
theorem name_no (h : op = 1 ∨ op = 4) (e : eatL 32 r = some q) (e2 : actOf (wordL q) = none) : nameL op r = none := by unfold nameL; rw [if_pos h, e]; simp [e2]
theorem name_low (h : op = 4) (e : eatL 32 r = some q) (e2 : (actOf (wordL q)).getD 0 ≤ 0) : nameL op r = none := by
  unfold nameL; rw [if_pos (.inr h), e]
  cases h2 : actOf (wordL q) with
  | none => simp [h2]
  | some a => rw [h2] at e2; simp only [Option.getD_some] at e2; simp [h2, h, e2]
theorem name_act (h : op = 1) (e : eatL 32 r = some q) (e2 : (actOf (wordL q)).isSome = true) : nameL op r = some ((actOf (wordL q)).getD 0, restL q) := by
  unfold nameL; rw [if_pos (.inl h), e]
  obtain ⟨a, h2⟩ := Option.isSome_iff_exists.mp e2
  subst h; simp [h2]
theorem name_hide (h : op = 4) (e : eatL 32 r = some q) (e2 : (actOf (wordL q)).isSome = true) (e3 : ¬ (actOf (wordL q)).getD 0 ≤ 0) : nameL op r = some ((actOf (wordL q)).getD 0 - 1, restL q) := by
  unfold nameL; rw [if_pos (.inr h), e]
  obtain ⟨a, h2⟩ := Option.isSome_iff_exists.mp e2
  rw [h2] at e3; simp only [Option.getD_some] at e3
  subst h; simp [h2, e3]
theorem many_two (h : op = 2 ∨ op = 3) : manyOf op = 2 := if_pos h
theorem many_one (h1 : ¬ op = 2) (h2 : ¬ op = 3) : manyOf op = 1 := if_neg (by omega)
theorem act_rng (w : List UInt8) : -4 ≤ (actOf w).getD 0 ∧ (actOf w).getD 0 ≤ 4 := by
  cases e : actOf w with
  | none => simp
  | some a => simpa using (actOf_some e).2
end
end Go.Proofs.YthbodgnoadlbcaaDoor.Asl
