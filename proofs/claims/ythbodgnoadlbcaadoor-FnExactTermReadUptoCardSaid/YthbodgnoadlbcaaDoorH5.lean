/- The program's scan, plainly: what does not grow. -/
import Derived.Test.YthbodgnoadlbcaaDoorH4
namespace Go.Proofs.YthbodgnoadlbcaaDoor.Asl
set_option linter.unusedVariables false
set_option linter.unusedSimpArgs false
set_option maxHeartbeats 4000000
theorem actOf_none {w : List UInt8} (h : ∀ a : Int, -4 ≤ a → a ≤ 4 → actT a ≠ w) : actOf w = none := by
  unfold actOf
  rw [List.find?_eq_none]
  intro a ha
  have : -4 ≤ a ∧ a ≤ 4 := by simp [actsL] at ha; omega
  simpa using h a this.1 this.2
theorem actOf_hit {w : List UInt8} {a : Int} (h0 : -4 ≤ a) (h1 : a ≤ 4) (h : actT a = w) : actOf w = some a := by
  subst h; exact actOf_actT ⟨h0, h1⟩
/-- A scan of a text of at most n bytes, that may read at most L nodes. -/
structure Sc.ok (n : Nat) (L : Int) (r : Sc) : Prop where
  len : r.s.length ≤ n
  left : r.left ≤ L
  pos : r.bad = false → 0 ≤ r.left
  low : -1 ≤ r.left
theorem rest_len (s : List UInt8) : (restL s).length ≤ s.length := by
  have := congrArg List.length (word_rest s)
  rw [List.length_append] at this; omega
theorem Sc.ok.take {n : Nat} {L : Int} {w : List UInt8} {r r' : Sc} (h : r.ok n L) (e : r.take w = some r') : r'.ok n L := by
  unfold Sc.take at e
  split at e
  · cases e
    exact ⟨by have := h.len; simp; omega, h.left, h.pos, h.low⟩
  · cases e
theorem Sc.ok.must {n : Nat} {L : Int} {r : Sc} (h : r.ok n L) (w : List UInt8) : (r.must w).ok n L := by
  unfold Sc.must
  cases e : r.take w with
  | some r' => exact h.take e
  | none => exact ⟨h.len, h.left, by simp, h.low⟩
theorem Sc.ok.act {n : Nat} {L : Int} {r : Sc} (h : r.ok n L) : r.act.2.ok n L :=
  ⟨Nat.le_trans (rest_len _) h.len, h.left, fun e => h.pos (by simp [Sc.act] at e; exact e.1), h.low⟩
theorem Sc.ok.name {n : Nat} {L : Int} {r : Sc} (h : r.ok n L) : r.name.2.ok n L :=
  ⟨Nat.le_trans (rest_len _) h.len, h.left, fun e => h.pos (by simp [Sc.name] at e; exact e.1.1), h.low⟩
theorem Sc.ok.leaf {n : Nat} {L : Int} {r : Sc} (h : r.ok n L) : (leafS r).2.ok n L :=
  ⟨Nat.le_trans (rest_len _) h.len, h.left, fun e => h.pos (by simp [leafS] at e; exact e.1), h.low⟩
theorem Sc.ok.part {n : Nat} {L : Int} {rd : Sc → Tm × Sc} (hrd : ∀ r : Sc, r.bad = false → r.ok n L → (rd r).2.ok n L) {x : List Tm × Sc} (h : x.2.ok n L) : (partS rd x).2.ok n L := by
  unfold partS
  split
  · exact h.must _
  · rename_i hb
    exact hrd _ (by rw [← Bool.not_eq_true]; exact hb) (h.must _)
theorem Sc.ok.body {n : Nat} {L : Int} {rd : Sc → Tm × Sc} (hrd : ∀ r : Sc, r.bad = false → r.ok n L → (rd r).2.ok n L) {r : Sc} (h : r.ok n L) : (bodyS rd r).2.ok n L := by
  unfold bodyS
  cases e1 : r.take [40, 97, 99, 116, 32] with
  | some r1 => exact (Sc.ok.part hrd (x := ([], r1.act.2)) (h.take e1).act).must _
  | none =>
    cases e2 : r.take [40, 115, 117, 109] with
    | some r1 => exact (Sc.ok.part hrd (Sc.ok.part hrd (x := ([], r1)) (h.take e2))).must _
    | none =>
      cases e3 : r.take [40, 112, 97, 114] with
      | some r1 => exact (Sc.ok.part hrd (Sc.ok.part hrd (x := ([], r1)) (h.take e3))).must _
      | none =>
        cases e4 : r.take [40, 104, 105, 100, 101, 32] with
        | some r1 => exact (Sc.ok.part hrd (x := ([], r1.name.2)) (h.take e4).name).must _
        | none => exact h.leaf
theorem Sc.ok.node {n : Nat} {L : Int} {r : Sc} (h : r.ok n L) (hp : 0 ≤ r.left) : r.node.ok n (L - 1) := by
  have := h.left
  refine ⟨h.len, by simp [Sc.node]; omega, fun e => ?_, by simp [Sc.node]; omega⟩
  simp [Sc.node] at e ⊢
  omega
theorem Sc.ok.up {n : Nat} {L L' : Int} {r : Sc} (h : r.ok n L) (hl : L ≤ L') : r.ok n L' := ⟨h.len, Int.le_trans h.left hl, h.pos, h.low⟩
theorem Sc.ok.term {n : Nat} : ∀ (f : Nat) (L : Int) (r : Sc), r.bad = false → r.ok n L → (termS f r).2.ok n L
  | 0, L, r, _, h => h
  | f + 1, L, r, hb, h => by
    unfold termS
    have hn := h.node (h.pos hb)
    split
    · exact hn.up (by omega)
    · exact (Sc.ok.body (fun r hb hr => Sc.ok.term f (L - 1) r hb hr) hn).up (by omega)
end Go.Proofs.YthbodgnoadlbcaaDoor.Asl
