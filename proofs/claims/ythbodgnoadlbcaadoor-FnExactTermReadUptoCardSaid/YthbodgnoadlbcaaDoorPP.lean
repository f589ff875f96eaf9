/- Several texts in one. -/
/- Graphs in plain terms: moves in order, states that are reached. -/
namespace Go.Proofs.YthbodgnoadlbcaaDoor.Asl

/-- Is it so? -/
noncomputable def prB (p : Prop) : Bool := @decide p (Classical.propDecidable p)
theorem prB_iff {p : Prop} : prB p = true ↔ p := by simp [prB]
theorem prB_true {p : Prop} (h : p) : prB p = true := prB_iff.mpr h
theorem prB_false {p : Prop} (h : ¬ p) : prB p = false := by simp [prB, h]
theorem prB_eq {p : Prop} {b : Bool} (h : b = true ↔ p) : b = prB p := by
  cases b
  · exact (prB_false fun hp => by simpa using h.mpr hp).symm
  · exact (prB_true (h.mp rfl)).symm

abbrev Mv := Int × Int
abbrev Gr := List (List Mv)

def mlt (a b : Mv) : Bool := decide (a.1 < b.1 ∨ (a.1 = b.1 ∧ a.2 < b.2))
def Srt (l : List Mv) : Prop := l.Pairwise fun a b => mlt a b = true

def insM (m : Mv) : List Mv → List Mv
  | [] => [m]
  | x :: xs => if mlt m x = true then m :: x :: xs else if m = x then x :: xs else x :: insM m xs
/-- Moves in order, each once. -/
def tidyL (l : List Mv) : List Mv := l.foldl (fun out m => insM m out) []
/-- Neighbours that are the same, once. -/
def compactL : List Mv → List Mv
  | [] => []
  | [x] => [x]
  | x :: y :: r => if x = y then compactL (y :: r) else x :: compactL (y :: r)
/-- A graph. -/
structure GOk (g : Gr) : Prop where
  pos : 1 ≤ g.length
  most : g.length ≤ 60
  moves : ∀ l ∈ g, ∀ m ∈ l, (-4 ≤ m.1 ∧ m.1 ≤ 4) ∧ 0 ≤ m.2 ∧ m.2 < g.length
  srt : ∀ l ∈ g, Srt l

/-- The moves of a state. -/
def rowOf (g : Gr) (s : Nat) : List Mv := g.getD s []
theorem rowOf_get {g : Gr} {s : Nat} (h : s < g.length) : g[s]? = some (rowOf g s) := by simp [rowOf, h]
theorem rowOf_mem {g : Gr} {s : Nat} (h : s < g.length) : rowOf g s ∈ g := List.mem_of_getElem? (rowOf_get h)
theorem rowOf_nil {g : Gr} {s : Nat} (h : ¬ s < g.length) : rowOf g s = [] := by simp [rowOf, Nat.not_lt.mp h]
theorem GOk.to {g : Gr} (h : GOk g) {s : Nat} {m : Mv} (hm : m ∈ rowOf g s) : (-4 ≤ m.1 ∧ m.1 ≤ 4) ∧ 0 ≤ m.2 ∧ m.2 < g.length ∧ m.2.toNat < g.length ∧ ((m.2.toNat : Nat) : Int) = m.2 := by
  have hs : s < g.length := by
    rcases Nat.lt_or_ge s g.length with k | k
    · exact k
    · rw [rowOf_nil (by omega)] at hm; simp at hm
  have := h.moves _ (rowOf_mem hs) m hm
  omega
/-- States met on the way through a list of moves. -/
def scan (out : List Nat) : List Mv → List Nat
  | [] => out
  | m :: ms => scan (if m.2.toNat ∈ out then out else out ++ [m.2.toNat]) ms
theorem scan_pre (ms : List Mv) : ∀ out, ∃ t, scan out ms = out ++ t := by
  induction ms with
  | nil => intro out; exact ⟨[], by simp [scan]⟩
  | cons m ms ih =>
    intro out
    obtain ⟨t, ht⟩ := ih (if m.2.toNat ∈ out then out else out ++ [m.2.toNat])
    unfold scan
    rw [ht]
    split
    · exact ⟨t, rfl⟩
    · exact ⟨m.2.toNat :: t, by simp⟩
theorem mem_scan {ms : List Mv} {x : Nat} : ∀ {out : List Nat}, x ∈ scan out ms ↔ x ∈ out ∨ ∃ m ∈ ms, m.2.toNat = x := by
  induction ms with
  | nil => intro out; simp [scan]
  | cons m ms ih =>
    intro out
    unfold scan
    rw [ih]
    split
    · rename_i h
      constructor
      · rintro (k | ⟨n, hn, rfl⟩)
        · exact .inl k
        · exact .inr ⟨n, by simp [hn], rfl⟩
      · rintro (k | ⟨n, hn, rfl⟩)
        · exact .inl k
        · rcases List.mem_cons.mp hn with rfl | hn
          · exact .inl h
          · exact .inr ⟨n, hn, rfl⟩
    · constructor
      · rintro (k | ⟨n, hn, rfl⟩)
        · rcases List.mem_append.mp k with k | k
          · exact .inl k
          · simp at k; exact .inr ⟨m, by simp, k.symm⟩
        · exact .inr ⟨n, by simp [hn], rfl⟩
      · rintro (k | ⟨n, hn, rfl⟩)
        · exact .inl (List.mem_append_left _ k)
        · rcases List.mem_cons.mp hn with rfl | hn
          · exact .inl (by simp)
          · exact .inr ⟨n, hn, rfl⟩
theorem scan_nodup {ms : List Mv} : ∀ {out : List Nat}, out.Nodup → (scan out ms).Nodup := by
  induction ms with
  | nil => intro out h; exact h
  | cons m ms ih =>
    intro out h
    unfold scan
    refine ih ?_
    split
    · exact h
    · rename_i hm
      rw [List.nodup_append]
      refine ⟨h, by simp, ?_⟩
      intro a ha b hb
      simp at hb; subst hb
      intro e; subst e; exact hm ha

theorem nodup_le : ∀ (n : Nat) (l : List Nat), l.Nodup → (∀ x ∈ l, x < n) → l.length ≤ n := by
  intro n
  induction n with
  | zero =>
    intro l _ h
    cases l with
    | nil => simp
    | cons x l => have := h x (by simp); omega
  | succ n ih =>
    intro l hn h
    by_cases hm : n ∈ l
    · have h1 := ih (l.erase n) (hn.erase n) (fun x hx => by
        have h2 := (hn.mem_erase_iff).mp hx
        have := h x h2.2
        have := h2.1; omega)
      rw [List.length_erase_of_mem hm] at h1
      have : 0 < l.length := List.length_pos_of_mem hm
      omega
    · have := ih l hn (fun x hx => by
        have := h x hx
        have : x ≠ n := fun e => hm (e ▸ hx)
        omega)
      omega

/-- The search for states: from place k on. -/
def bfs (g : Gr) : Nat → Nat → List Nat → List Nat
  | 0, _, out => out
  | f + 1, k, out => if k < out.length then bfs g f (k + 1) (scan out (rowOf g (out.getD k 0))) else out
/-- What is known of states that have been found. -/
structure Found (g : Gr) (s : Nat) (out : List Nat) : Prop where
  nodup : out.Nodup
  lt : ∀ x ∈ out, x < g.length
  first : out[0]? = some s
theorem Found.len {g : Gr} {s : Nat} {out : List Nat} (h : Found g s out) : out.length ≤ g.length := nodup_le _ _ h.nodup h.lt
theorem Found.pos {g : Gr} {s : Nat} {out : List Nat} (h : Found g s out) : 0 < out.length := by
  rcases Nat.eq_zero_or_pos out.length with k | k
  · have := h.first; rw [List.getElem?_eq_none (by omega)] at this; cases this
  · exact k
theorem Found.scan {g : Gr} {s : Nat} {out : List Nat} (h : Found g s out) {ms : List Mv} (hm : ∀ m ∈ ms, 0 ≤ m.2 ∧ m.2 < g.length) : Found g s (Asl.scan out ms) := by
  refine ⟨scan_nodup h.nodup, fun x hx => ?_, ?_⟩
  · rcases mem_scan.mp hx with k | ⟨m, hm', rfl⟩
    · exact h.lt x k
    · have := hm m hm'; omega
  · obtain ⟨t, ht⟩ := scan_pre ms out
    rw [ht, List.getElem?_append_left h.pos]; exact h.first
theorem Found.next {g : Gr} (hg : GOk g) {s : Nat} {out : List Nat} (h : Found g s out) (k : Nat) : Found g s (Asl.scan out (rowOf g (out.getD k 0))) :=
  h.scan fun m hm => by have := hg.to hm; omega
/-- The states to which one comes from a state, as they come. -/
def fromL (g : Gr) (s : Nat) : List Nat := bfs g g.length 0 [s]

/-- Closed under moves. -/
def Closed (g : Gr) (p : Nat → Prop) : Prop := ∀ x, p x → ∀ m ∈ rowOf g x, p m.2.toNat
/-- The states that are reached, ascending. -/
def reachL (g : Gr) : List Nat := (List.range g.length).filter fun s => decide (s ∈ fromL g 0)
/-- The graph of the states to which one comes. -/
def partL (g : Gr) (s : Nat) : Gr := (fromL g s).map fun k => tidyL ((rowOf g k).map fun m => (m.1, (((fromL g s).idxOf m.2.toNat : Nat) : Int)))
/-- Graphs one behind the other. -/
def bothL (a b : Gr) : Gr := a ++ b.map fun (l : List Mv) => l.map fun (m : Mv) => ((m.1, m.2 + (a.length : Int)) : Mv)
end Go.Proofs.YthbodgnoadlbcaaDoor.Asl

/- Graphs in plain terms: rounds, classes, likenesses, loops. -/
namespace Go.Proofs.YthbodgnoadlbcaaDoor.Asl

/-- The mark of a state by classes. -/
def sigL (g : Gr) (c : List Nat) (s : Nat) : List Mv := tidyL ((rowOf g s).map fun m => ((m.1, ((c.getD m.2.toNat 0 : Nat) : Int)) : Mv))
def SameC (g : Gr) (c : List Nat) (r s : Nat) : Prop := c.getD r 0 = c.getD s 0 ∧ sigL g c r = sigL g c s
instance (g : Gr) (c : List Nat) (r s : Nat) : Decidable (SameC g c r s) := by unfold SameC; infer_instance
theorem SameC.refl (g : Gr) (c : List Nat) (s : Nat) : SameC g c s s := ⟨rfl, rfl⟩
theorem SameC.symm {g : Gr} {c : List Nat} {r s : Nat} (h : SameC g c r s) : SameC g c s r := ⟨h.1.symm, h.2.symm⟩
theorem SameC.trans {g : Gr} {c : List Nat} {r s t : Nat} (h : SameC g c r s) (k : SameC g c s t) : SameC g c r t := ⟨h.1.trans k.1, h.2.trans k.2⟩
/-- Has a state a move with an action into a class? -/
def HasC (g : Gr) (c : List Nat) (s : Nat) (a : Int) (k : Nat) : Prop := ∃ m ∈ rowOf g s, m.1 = a ∧ c.getD m.2.toNat 0 = k
def CoversC (g : Gr) (c : List Nat) (s t : Nat) : Prop := ∀ m ∈ rowOf g s, HasC g c t m.1 (c.getD m.2.toNat 0)
/-- The least state of the class. -/
def leastC (g : Gr) (c : List Nat) (s : Nat) : Nat := ((List.range s).find? fun r => decide (SameC g c r s)).getD s
theorem leastC_spec (g : Gr) (c : List Nat) (s : Nat) : leastC g c s ≤ s ∧ SameC g c (leastC g c s) s ∧ ∀ t, t < leastC g c s → ¬ SameC g c t s := by
  unfold leastC
  cases h : (List.range s).find? fun r => decide (SameC g c r s) with
  | none =>
    simp only [Option.getD_none]
    refine ⟨Nat.le_refl _, .refl _ _ _, fun t ht hs => ?_⟩
    have := (List.find?_eq_none.mp h) t (by simpa using ht)
    simp at this; exact this hs
  | some r =>
    simp only [Option.getD_some]
    have h1 : SameC g c r s := by have := List.find?_some h; simpa using this
    have h2 : r < s := by have := List.mem_of_find?_eq_some h; simpa using this
    refine ⟨by omega, h1, fun t ht hs => ?_⟩
    have h3 := List.find?_range_eq_some.mp h
    have := h3.2.2 t ht
    simp at this; exact this hs
def nextC (g : Gr) (c : List Nat) : List Nat := (List.range c.length).map (leastC g c)
theorem nextC_length (g : Gr) (c : List Nat) : (nextC g c).length = c.length := by simp [nextC]
theorem nextC_get {g : Gr} {c : List Nat} {s : Nat} (h : s < c.length) : (nextC g c).getD s 0 = leastC g c s := by
  simp [nextC, List.getD_eq_getElem?_getD, h]
theorem leastC_iff {g : Gr} {c : List Nat} {s t : Nat} : leastC g c s = leastC g c t ↔ SameC g c s t := by
  obtain ⟨a1, a2, a3⟩ := leastC_spec g c s
  obtain ⟨b1, b2, b3⟩ := leastC_spec g c t
  constructor
  · intro h; rw [h] at a2; exact a2.symm.trans b2
  · intro h
    rcases Nat.lt_trichotomy (leastC g c s) (leastC g c t) with k | k | k
    · exact absurd (a2.trans h) (b3 _ k)
    · exact k
    · exact absurd (b2.trans h.symm) (a3 _ k)
theorem leastC_least (g : Gr) (c : List Nat) (s : Nat) : leastC g c (leastC g c s) = leastC g c s := leastC_iff.mpr (leastC_spec g c s).2.1

/-- Classes that are told by their least states. -/
structure Canon (c : List Nat) : Prop where
  le : ∀ s, s < c.length → c.getD s 0 ≤ s
  idem : ∀ s, s < c.length → c.getD (c.getD s 0) 0 = c.getD s 0
theorem Canon.next (g : Gr) (c : List Nat) : Canon (nextC g c) := by
  refine ⟨fun s hs => ?_, fun s hs => ?_⟩
  · rw [nextC_length] at hs; rw [nextC_get hs]; exact (leastC_spec g c s).1
  · rw [nextC_length] at hs
    have := (leastC_spec g c s).1
    rw [nextC_get hs, nextC_get (by omega), leastC_least]
theorem Canon.zero (n : Nat) : Canon (List.replicate n 0) := by
  have h : ∀ s, (List.replicate n 0).getD s 0 = 0 := fun s => by
    rw [List.getD_eq_getElem?_getD, List.getElem?_replicate]; split <;> rfl
  exact ⟨fun s _ => by rw [h]; omega, fun s _ => by rw [h, h]⟩
def reps (c : List Nat) : List Nat := (List.range c.length).filter fun s => decide (c.getD s 0 = s)
def rnds (g : Gr) : Nat → List Nat → List (List Nat)
  | 0, c => [c]
  | f + 1, c => if nextC g c = c then [c] else c :: rnds g f (nextC g c)
/-- The classes behind each round. -/
def roundsL (g : Gr) : List (List Nat) := rnds g g.length (List.replicate g.length 0)
/-- The classes of the last round. -/
def lastC (g : Gr) : List Nat := (roundsL g).getLast?.getD []

/-- A likeness of states. -/
def Bis (g : Gr) (R : Nat → Nat → Prop) : Prop := ∀ s t, R s t → (s < g.length ∧ t < g.length) ∧ (∀ m ∈ rowOf g s, ∃ k ∈ rowOf g t, k.1 = m.1 ∧ R m.2.toNat k.2.toNat) ∧ (∀ k ∈ rowOf g t, ∃ m ∈ rowOf g s, m.1 = k.1 ∧ R m.2.toNat k.2.toNat)
/-- The graph of classes. -/
def foldG (g : Gr) (c : List Nat) : Gr := (reps c).map fun s => tidyL ((rowOf g s).map fun m => ((m.1, (((reps c).idxOf (c.getD m.2.toNat 0) : Nat) : Int)) : Mv))

/-- Does a state slip to one that is told to run on? -/
def onL (g : Gr) (is : List Bool) (s : Nat) : Bool := (rowOf g s).any fun m => decide (m.1 = 0) && is.getD m.2.toNat false
def lstep (g : Gr) (x : List Bool × Bool) (s : Nat) : List Bool × Bool := if (x.1.getD s false && !onL g x.1 s) = true then (x.1.set s false, true) else x
def lpass (g : Gr) (is : List Bool) : List Bool × Bool := (List.range g.length).foldl (lstep g) (is, false)
def lrun (g : Gr) : Nat → List Bool → List Bool
  | 0, is => is
  | f + 1, is => if (lpass g is).2 = true then lrun g f (lpass g is).1 else (lpass g is).1
def loopsL (g : Gr) : List Bool := lrun g (g.length + 1) (List.replicate g.length true)
def trues (is : List Bool) : Nat := is.countP id
/-- The states that run for ever, ascending. -/
def loopStates (g : Gr) : List Nat := (List.range g.length).filter fun s => (loopsL g).getD s false

/-- A table of truths that tells a likeness. -/
structure RelOk (g : Gr) (rel : List (List Bool)) : Prop where
  ok : GOk g
  len : rel.length = g.length
  rows : ∀ r ∈ rel, r.length = g.length
  fwd : ∀ s t, s < g.length → t < g.length → (rel.getD s []).getD t false = true → ∀ m ∈ rowOf g s, ∃ k ∈ rowOf g t, k.1 = m.1 ∧ (rel.getD m.2.toNat []).getD k.2.toNat false = true
  bwd : ∀ s t, s < g.length → t < g.length → (rel.getD s []).getD t false = true → ∀ k ∈ rowOf g t, ∃ m ∈ rowOf g s, m.1 = k.1 ∧ (rel.getD m.2.toNat []).getD k.2.toNat false = true
end Go.Proofs.YthbodgnoadlbcaaDoor.Asl

/- Graphs in plain terms: put together, parts, folds; the plain laws. -/
namespace Go.Proofs.YthbodgnoadlbcaaDoor.Asl

/-- A likeness of states of two graphs. -/
def Bis2 (a b : Gr) (R : Nat → Nat → Prop) : Prop := ∀ s i, R s i → (s < a.length ∧ i < b.length) ∧ (∀ m ∈ rowOf a s, ∃ k ∈ rowOf b i, k.1 = m.1 ∧ R m.2.toNat k.2.toNat) ∧ (∀ k ∈ rowOf b i, ∃ m ∈ rowOf a s, m.1 = k.1 ∧ R m.2.toNat k.2.toNat)
theorem getD_some {l : List Nat} {i x : Nat} (h : l[i]? = some x) : l.getD i 0 = x := by simp [List.getD_eq_getElem?_getD, h]
def classRel (c : List Nat) : List (List Bool) := (List.range c.length).map fun s => (List.range c.length).map fun t => decide (c.getD s 0 = c.getD t 0)
end Go.Proofs.YthbodgnoadlbcaaDoor.Asl
