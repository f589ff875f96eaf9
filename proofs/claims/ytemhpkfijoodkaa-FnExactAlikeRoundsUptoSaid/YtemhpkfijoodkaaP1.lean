/- Graphs in plain terms: rounds, classes, likenesses, loops. -/
import Derived.Test.YtemhpkfijoodkaaP0
namespace Go.Proofs.Ytemhpkfijoodkaa.Asl

/-- The mark of a state by classes. -/
def sigL (g : Gr) (c : List Nat) (s : Nat) : List Mv := tidyL ((rowOf g s).map fun m => ((m.1, ((c.getD m.2.toNat 0 : Nat) : Int)) : Mv))
def SameC (g : Gr) (c : List Nat) (r s : Nat) : Prop := c.getD r 0 = c.getD s 0 ∧ sigL g c r = sigL g c s
instance (g : Gr) (c : List Nat) (r s : Nat) : Decidable (SameC g c r s) := by unfold SameC; infer_instance
theorem SameC.refl (g : Gr) (c : List Nat) (s : Nat) : SameC g c s s := ⟨rfl, rfl⟩
theorem SameC.symm {g : Gr} {c : List Nat} {r s : Nat} (h : SameC g c r s) : SameC g c s r := ⟨h.1.symm, h.2.symm⟩
theorem SameC.trans {g : Gr} {c : List Nat} {r s t : Nat} (h : SameC g c r s) (k : SameC g c s t) : SameC g c r t := ⟨h.1.trans k.1, h.2.trans k.2⟩
/-- Has a state a move with an action into a class? -/
def HasC (g : Gr) (c : List Nat) (s : Nat) (a : Int) (k : Nat) : Prop := ∃ m ∈ rowOf g s, m.1 = a ∧ c.getD m.2.toNat 0 = k
def CoversC (g : Gr) (c : List Nat) (s t : Nat) : Prop := ∀ m ∈ rowOf g s, HasC g c t m.1 (c.getD m.2.toNat 0)
theorem mem_sig {g : Gr} {c : List Nat} {s : Nat} {y : Mv} : y ∈ sigL g c s ↔ ∃ m ∈ rowOf g s, m.1 = y.1 ∧ ((c.getD m.2.toNat 0 : Nat) : Int) = y.2 := by
  unfold sigL
  rw [mem_tidyL, List.mem_map]
  constructor
  · rintro ⟨m, hm, rfl⟩; exact ⟨m, hm, rfl, rfl⟩
  · rintro ⟨m, hm, h1, h2⟩; exact ⟨m, hm, Prod.ext h1 h2⟩
theorem sig_iff {g : Gr} {c : List Nat} {s t : Nat} : sigL g c s = sigL g c t ↔ CoversC g c s t ∧ CoversC g c t s := by
  have key : ∀ s t, (∀ y, y ∈ sigL g c s → y ∈ sigL g c t) ↔ CoversC g c s t := by
    intro s t
    constructor
    · intro h m hm
      obtain ⟨k, hk, h1, h2⟩ := mem_sig.mp (h (m.1, ((c.getD m.2.toNat 0 : Nat) : Int)) (mem_sig.mpr ⟨m, hm, rfl, rfl⟩))
      exact ⟨k, hk, h1, Int.ofNat_inj.mp h2⟩
    · intro h y hy
      obtain ⟨m, hm, h1, h2⟩ := mem_sig.mp hy
      obtain ⟨k, hk, h3, h4⟩ := h m hm
      exact mem_sig.mpr ⟨k, hk, h3.trans h1, by rw [h4]; exact h2⟩
  rw [← key, ← key]
  constructor
  · intro h; rw [h]; exact ⟨fun _ h => h, fun _ h => h⟩
  · intro h
    exact srt_unique (srt_tidyL _) (srt_tidyL _) fun y => ⟨h.1 y, h.2 y⟩
/-- The least state of the class. -/
def leastC (g : Gr) (c : List Nat) (s : Nat) : Nat := ((List.range s).find? fun r => decide (SameC g c r s)).getD s
theorem leastC_spec (g : Gr) (c : List Nat) (s : Nat) : leastC g c s ≤ s ∧ SameC g c (leastC g c s) s ∧ ∀ t, t < leastC g c s → ¬ SameC g c t s := by
  unfold leastC
  cases h : (List.range s).find? fun r => decide (SameC g c r s) with
  | none =>
    simp only [Option.getD_none]
    refine ⟨Nat.le_refl _, .refl _ _ _, fun t ht hs => ?_⟩
    have := (List.find?_eq_none.mp h) t (by simpa using ht)
    simp at this; exact this hs
  | some r =>
    simp only [Option.getD_some]
    have h1 : SameC g c r s := by have := List.find?_some h; simpa using this
    have h2 : r < s := by have := List.mem_of_find?_eq_some h; simpa using this
    refine ⟨by omega, h1, fun t ht hs => ?_⟩
    have h3 := List.find?_range_eq_some.mp h
    have := h3.2.2 t ht
    simp at this; exact this hs
theorem leastC_eq {g : Gr} {c : List Nat} {s r : Nat} (h2 : SameC g c r s) (h3 : ∀ t, t < r → ¬ SameC g c t s) : leastC g c s = r := by
  obtain ⟨k1, k2, k3⟩ := leastC_spec g c s
  rcases Nat.lt_trichotomy (leastC g c s) r with h | h | h
  · exact absurd k2 (h3 _ h)
  · exact h
  · exact absurd h2 (k3 _ h)
def nextC (g : Gr) (c : List Nat) : List Nat := (List.range c.length).map (leastC g c)
theorem nextC_length (g : Gr) (c : List Nat) : (nextC g c).length = c.length := by simp [nextC]
theorem nextC_get {g : Gr} {c : List Nat} {s : Nat} (h : s < c.length) : (nextC g c).getD s 0 = leastC g c s := by
  simp [nextC, List.getD_eq_getElem?_getD, h]
theorem leastC_iff {g : Gr} {c : List Nat} {s t : Nat} : leastC g c s = leastC g c t ↔ SameC g c s t := by
  obtain ⟨a1, a2, a3⟩ := leastC_spec g c s
  obtain ⟨b1, b2, b3⟩ := leastC_spec g c t
  constructor
  · intro h; rw [h] at a2; exact a2.symm.trans b2
  · intro h
    rcases Nat.lt_trichotomy (leastC g c s) (leastC g c t) with k | k | k
    · exact absurd (a2.trans h) (b3 _ k)
    · exact k
    · exact absurd (b2.trans h.symm) (a3 _ k)
theorem leastC_least (g : Gr) (c : List Nat) (s : Nat) : leastC g c (leastC g c s) = leastC g c s := leastC_iff.mpr (leastC_spec g c s).2.1

/-- Classes that are told by their least states. -/
structure Canon (c : List Nat) : Prop where
  le : ∀ s, s < c.length → c.getD s 0 ≤ s
  idem : ∀ s, s < c.length → c.getD (c.getD s 0) 0 = c.getD s 0
theorem Canon.next (g : Gr) (c : List Nat) : Canon (nextC g c) := by
  refine ⟨fun s hs => ?_, fun s hs => ?_⟩
  · rw [nextC_length] at hs; rw [nextC_get hs]; exact (leastC_spec g c s).1
  · rw [nextC_length] at hs
    have := (leastC_spec g c s).1
    rw [nextC_get hs, nextC_get (by omega), leastC_least]
theorem Canon.zero (n : Nat) : Canon (List.replicate n 0) := by
  have h : ∀ s, (List.replicate n 0).getD s 0 = 0 := fun s => by
    rw [List.getD_eq_getElem?_getD, List.getElem?_replicate]; split <;> rfl
  exact ⟨fun s _ => by rw [h]; omega, fun s _ => by rw [h, h]⟩
def reps (c : List Nat) : List Nat := (List.range c.length).filter fun s => decide (c.getD s 0 = s)
theorem mem_reps {c : List Nat} {s : Nat} : s ∈ reps c ↔ s < c.length ∧ c.getD s 0 = s := by simp [reps]
theorem reps_nodup (c : List Nat) : (reps c).Nodup := List.nodup_range.filter _
theorem filter_lt {α : Type} {p q : α → Bool} : ∀ {l : List α}, (∀ x ∈ l, p x = true → q x = true) → (∃ x ∈ l, q x = true ∧ p x = false) → (l.filter p).length < (l.filter q).length
  | [], _, h => by obtain ⟨x, hx, _⟩ := h; simp at hx
  | y :: l, h, hx => by
    have hle : ∀ l : List α, (∀ x ∈ l, p x = true → q x = true) → (l.filter p).length ≤ (l.filter q).length := by
      intro l
      induction l with
      | nil => intro _; simp
      | cons z l ih =>
        intro h
        have := ih (fun x hx => h x (by simp [hx]))
        have hz := h z (by simp)
        rw [List.filter_cons, List.filter_cons]
        split
        · rename_i hp; rw [if_pos (hz hp)]; simp; omega
        · split
          · simp; omega
          · exact this
    have hl := hle l (fun x hx => h x (by simp [hx]))
    rw [List.filter_cons, List.filter_cons]
    obtain ⟨x, hxm, hq, hp⟩ := hx
    rcases List.mem_cons.mp hxm with rfl | hxm
    · rw [if_pos hq, if_neg (by simp [hp])]; simp; omega
    · have := filter_lt (l := l) (fun x hx => h x (by simp [hx])) ⟨x, hxm, hq, hp⟩
      have hy := h y (by simp)
      split
      · rename_i hpy; rw [if_pos (hy hpy)]; simp; omega
      · split
        · simp; omega
        · exact this
theorem canon_ext {c d : List Nat} (hl : c.length = d.length) (h : ∀ s, s < c.length → c.getD s 0 = d.getD s 0) : c = d := by
  apply List.ext_getElem hl
  intro s h1 h2
  have := h s h1
  simpa [List.getD_eq_getElem?_getD, h1, h2] using this
/-- Every round that turns something has more classes. -/
theorem reps_lt {g : Gr} {c : List Nat} (hc : Canon c) (hne : nextC g c ≠ c) : (reps c).length < (reps (nextC g c)).length := by
  unfold reps
  rw [nextC_length]
  have hsub : ∀ s, s < c.length → c.getD s 0 = s → (nextC g c).getD s 0 = s := by
    intro s hs h
    rw [nextC_get hs]
    obtain ⟨k1, k2, _⟩ := leastC_spec g c s
    have := hc.le (leastC g c s) (by omega)
    have := k2.1
    omega
  refine filter_lt (fun s hs h => ?_) ?_
  · simp at hs h ⊢; exact hsub s hs h
  · apply Classical.byContradiction
    intro hno
    have hno : ∀ s, s < c.length → (nextC g c).getD s 0 = s → c.getD s 0 = s := by
      intro s hs h
      apply Classical.byContradiction
      intro hk
      exact hno ⟨s, by simpa using hs, by simpa using h, by simpa using hk⟩
    refine hne (canon_ext (nextC_length _ _) fun s hs => ?_)
    rw [nextC_length] at hs
    obtain ⟨k1, k2, _⟩ := leastC_spec g c s
    have h1 := hno (leastC g c s) (by omega) (by rw [nextC_get (by omega), leastC_least])
    rw [nextC_get hs, ← k2.1, h1]
theorem reps_le (c : List Nat) : (reps c).length ≤ c.length := by
  have := List.length_filter_le (fun s => decide (c.getD s 0 = s)) (List.range c.length)
  simpa [reps] using this

def rnds (g : Gr) : Nat → List Nat → List (List Nat)
  | 0, c => [c]
  | f + 1, c => if nextC g c = c then [c] else c :: rnds g f (nextC g c)
/-- The classes behind each round. -/
def roundsL (g : Gr) : List (List Nat) := rnds g g.length (List.replicate g.length 0)
theorem rnds_done {g : Gr} {f : Nat} {c : List Nat} (h : nextC g c = c) : rnds g f c = [c] := by
  cases f with
  | zero => rfl
  | succ f => simp only [rnds, if_pos h]
theorem rnds_step {g : Gr} {f : Nat} {c : List Nat} (hc : Canon c) (h : nextC g c ≠ c) (hf : c.length ≤ f + (reps c).length) : ∃ f', f = f' + 1 ∧ c.length ≤ f' + (reps (nextC g c)).length ∧ rnds g f c = c :: rnds g f' (nextC g c) := by
  have h1 := reps_lt hc h
  have h2 := reps_le (nextC g c)
  rw [nextC_length] at h2
  obtain ⟨f', rfl⟩ : ∃ f', f = f' + 1 := ⟨f - 1, by omega⟩
  exact ⟨f', rfl, by omega, by simp only [rnds, if_neg h]⟩
/-- What holds of the classes of all rounds, and of those of the last one. -/
theorem rnds_props {g : Gr} (p : List Nat → Prop) (hp : ∀ c, p c → p (nextC g c)) : ∀ (f : Nat) (c : List Nat), Canon c → p c → c.length ≤ f + (reps c).length →
    (∀ d ∈ rnds g f c, p d ∧ Canon d ∧ d.length = c.length) ∧ (∃ pre d, rnds g f c = pre ++ [d] ∧ nextC g d = d) ∧ (rnds g f c).length + (reps c).length ≤ c.length + 1 ∧
    ∀ k d e, (rnds g f c)[k]? = some d → (rnds g f c)[k + 1]? = some e → e = nextC g d ∧ e ≠ d := by
  have done : ∀ (f : Nat) (c : List Nat), Canon c → p c → nextC g c = c → (∀ d ∈ rnds g f c, p d ∧ Canon d ∧ d.length = c.length) ∧ (∃ pre d, rnds g f c = pre ++ [d] ∧ nextC g d = d) ∧ (rnds g f c).length + (reps c).length ≤ c.length + 1 ∧
      ∀ k d e, (rnds g f c)[k]? = some d → (rnds g f c)[k + 1]? = some e → e = nextC g d ∧ e ≠ d := by
    intro f c hc hpc h
    rw [rnds_done h]
    refine ⟨fun d hd => ?_, ⟨[], c, rfl, h⟩, ?_, fun k d e _ he => by simp at he⟩
    · simp at hd; subst hd; exact ⟨hpc, hc, rfl⟩
    · have := reps_le c; simp; omega
  intro f
  induction f with
  | zero =>
    intro c hc hpc hf
    refine done 0 c hc hpc ?_
    apply Classical.byContradiction
    intro h
    have := reps_lt hc h
    have := reps_le (nextC g c)
    rw [nextC_length] at this; omega
  | succ f ih =>
    intro c hc hpc hf
    by_cases h : nextC g c = c
    · exact done _ c hc hpc h
    · obtain ⟨f', hf', h1, h2⟩ := rnds_step hc h hf
      obtain rfl : f = f' := by omega
      obtain ⟨i1, ⟨pre, d, i2, i3⟩, i4, i5⟩ := ih (nextC g c) (Canon.next g c) (hp c hpc) (by rw [nextC_length]; exact h1)
      have hlt := reps_lt hc h
      rw [h2]
      refine ⟨fun d hd => ?_, ⟨c :: pre, d, by rw [i2]; rfl, i3⟩, ?_, ?_⟩
      · rcases List.mem_cons.mp hd with rfl | hd
        · exact ⟨hpc, hc, rfl⟩
        · obtain ⟨j1, j2, j3⟩ := i1 d hd
          exact ⟨j1, j2, by rw [j3, nextC_length]⟩
      · rw [nextC_length] at i4
        simp only [List.length_cons]; omega
      · intro k d e hd he
        cases k with
        | zero =>
          simp at hd he
          subst hd
          have : (rnds g f (nextC g c))[0]? = some (nextC g c) := by
            cases f with
            | zero => rfl
            | succ f => unfold rnds; split <;> rfl
          rw [this] at he; cases he
          exact ⟨rfl, h⟩
        | succ k => exact i5 k d e (by simpa using hd) (by simpa using he)
/-- The classes of the last round. -/
def lastC (g : Gr) : List Nat := (roundsL g).getLast?.getD []

/-- A likeness of states. -/
def Bis (g : Gr) (R : Nat → Nat → Prop) : Prop := ∀ s t, R s t → (s < g.length ∧ t < g.length) ∧ (∀ m ∈ rowOf g s, ∃ k ∈ rowOf g t, k.1 = m.1 ∧ R m.2.toNat k.2.toNat) ∧ (∀ k ∈ rowOf g t, ∃ m ∈ rowOf g s, m.1 = k.1 ∧ R m.2.toNat k.2.toNat)
theorem bis_same {g : Gr} {R : Nat → Nat → Prop} (h : Bis g R) {c : List Nat} (hl : c.length = g.length) (hc : ∀ s t, R s t → c.getD s 0 = c.getD t 0) {s t : Nat} (hR : R s t) : (nextC g c).getD s 0 = (nextC g c).getD t 0 := by
  obtain ⟨⟨hs, ht⟩, h1, h2⟩ := h s t hR
  rw [nextC_get (by omega), nextC_get (by omega), leastC_iff]
  refine ⟨hc s t hR, sig_iff.mpr ⟨fun m hm => ?_, fun k hk => ?_⟩⟩
  · obtain ⟨k, hk, e, r⟩ := h1 m hm
    exact ⟨k, hk, e, (hc _ _ r).symm⟩
  · obtain ⟨m, hm, e, r⟩ := h2 k hk
    exact ⟨m, hm, e, hc _ _ r⟩
theorem rounds_props {g : Gr} (p : List Nat → Prop) (h0 : p (List.replicate g.length 0)) (hp : ∀ c, p c → p (nextC g c)) :
    (∀ d ∈ roundsL g, p d ∧ Canon d ∧ d.length = g.length) ∧ (∃ pre d, roundsL g = pre ++ [d] ∧ nextC g d = d) ∧ (roundsL g).length + (reps (List.replicate g.length 0)).length ≤ g.length + 1 ∧
    ∀ k d e, (roundsL g)[k]? = some d → (roundsL g)[k + 1]? = some e → e = nextC g d ∧ e ≠ d := by
  have := rnds_props (g := g) p hp g.length (List.replicate g.length 0) (Canon.zero _) h0 (by simp)
  simpa [roundsL] using this
theorem lastC_props {g : Gr} (p : List Nat → Prop) (h0 : p (List.replicate g.length 0)) (hp : ∀ c, p c → p (nextC g c)) : p (lastC g) ∧ Canon (lastC g) ∧ (lastC g).length = g.length ∧ nextC g (lastC g) = lastC g := by
  obtain ⟨h1, ⟨pre, d, h2, h3⟩, _⟩ := rounds_props p h0 hp
  have : lastC g = d := by unfold lastC; rw [h2]; simp
  obtain ⟨k1, k2, k3⟩ := h1 d (by rw [h2]; simp)
  rw [this]
  exact ⟨k1, k2, k3, h3⟩
theorem lastC_len (g : Gr) : (lastC g).length = g.length := (lastC_props (fun _ => True) trivial (fun _ _ => trivial)).2.2.1
theorem lastC_canon (g : Gr) : Canon (lastC g) := (lastC_props (fun _ => True) trivial (fun _ _ => trivial)).2.1
theorem lastC_next (g : Gr) : nextC g (lastC g) = lastC g := (lastC_props (fun _ => True) trivial (fun _ _ => trivial)).2.2.2
/-- A likeness tells no more to be alike than the classes of any round. -/
theorem bis_rounds {g : Gr} {R : Nat → Nat → Prop} (h : Bis g R) : ∀ c ∈ roundsL g, ∀ s t, R s t → c.getD s 0 = c.getD t 0 := by
  intro c hc
  have hz : ∀ s n, (List.replicate n 0).getD s 0 = 0 := fun s n => by rw [List.getD_eq_getElem?_getD, List.getElem?_replicate]; split <;> rfl
  have := ((rounds_props (g := g) (fun c => c.length = g.length ∧ ∀ s t, R s t → c.getD s 0 = c.getD t 0) ⟨by simp, fun s t _ => by rw [hz, hz]⟩ (fun c hc => ⟨by rw [nextC_length]; exact hc.1, fun s t hR => bis_same h hc.1 hc.2 hR⟩)).1 c hc).1
  exact this.2
theorem bis_last {g : Gr} {R : Nat → Nat → Prop} (h : Bis g R) {s t : Nat} (hR : R s t) : (lastC g).getD s 0 = (lastC g).getD t 0 := by
  have hm : lastC g ∈ roundsL g := by
    obtain ⟨_, ⟨pre, d, h2, _⟩, _⟩ := rounds_props (g := g) (fun _ => True) trivial (fun _ _ => trivial)
    unfold lastC; rw [h2]; simp
  exact bis_rounds h _ hm s t hR
/-- What is of one class of the last round is a likeness. -/
theorem last_bis {g : Gr} (hg : GOk g) : Bis g fun s t => (s < g.length ∧ t < g.length) ∧ (lastC g).getD s 0 = (lastC g).getD t 0 := by
  rintro s t ⟨⟨hs, ht⟩, h⟩
  have hl := lastC_len g
  rw [← lastC_next g, nextC_get (by omega), nextC_get (by omega), leastC_iff] at h
  obtain ⟨h1, h2⟩ := sig_iff.mp h.2
  refine ⟨⟨hs, ht⟩, fun m hm => ?_, fun k hk => ?_⟩
  · obtain ⟨k, hk, e, c⟩ := h1 m hm
    have := hg.to hm
    have := hg.to hk
    exact ⟨k, hk, e, ⟨by omega, by omega⟩, c.symm⟩
  · obtain ⟨m, hm, e, c⟩ := h2 k hk
    have := hg.to hm
    have := hg.to hk
    exact ⟨m, hm, e, ⟨by omega, by omega⟩, c⟩
theorem last_iff {g : Gr} (hg : GOk g) {s t : Nat} (hs : s < g.length) (ht : t < g.length) : (lastC g).getD s 0 = (lastC g).getD t 0 ↔ ∃ R, Bis g R ∧ R s t :=
  ⟨fun h => ⟨_, last_bis hg, ⟨hs, ht⟩, h⟩, fun ⟨_, h, k⟩ => bis_last h k⟩

/-- The graph of classes. -/
def foldG (g : Gr) (c : List Nat) : Gr := (reps c).map fun s => tidyL ((rowOf g s).map fun m => ((m.1, (((reps c).idxOf (c.getD m.2.toNat 0) : Nat) : Int)) : Mv))

/-- Does a state slip to one that is told to run on? -/
def onL (g : Gr) (is : List Bool) (s : Nat) : Bool := (rowOf g s).any fun m => decide (m.1 = 0) && is.getD m.2.toNat false
def lstep (g : Gr) (x : List Bool × Bool) (s : Nat) : List Bool × Bool := if (x.1.getD s false && !onL g x.1 s) = true then (x.1.set s false, true) else x
def lpass (g : Gr) (is : List Bool) : List Bool × Bool := (List.range g.length).foldl (lstep g) (is, false)
def lrun (g : Gr) : Nat → List Bool → List Bool
  | 0, is => is
  | f + 1, is => if (lpass g is).2 = true then lrun g f (lpass g is).1 else (lpass g is).1
def loopsL (g : Gr) : List Bool := lrun g (g.length + 1) (List.replicate g.length true)
def trues (is : List Bool) : Nat := is.countP id
theorem trues_set {is : List Bool} {s : Nat} (h : is.getD s false = true) : trues (is.set s false) + 1 = trues is := by
  unfold trues
  induction is generalizing s with
  | nil => simp at h
  | cons b is ih =>
    cases s with
    | zero => simp at h; subst h; simp
    | succ s =>
      have := ih (s := s) (by simpa using h)
      cases b <;> simp at this ⊢ <;> omega
theorem lstep_len (g : Gr) (x : List Bool × Bool) (s : Nat) : (lstep g x s).1.length = x.1.length := by unfold lstep; split <;> simp
theorem lfold_props (g : Gr) (l : List Nat) : ∀ x : List Bool × Bool, (l.foldl (lstep g) x).1.length = x.1.length ∧ trues (l.foldl (lstep g) x).1 ≤ trues x.1 ∧ ((l.foldl (lstep g) x).2 = true → x.2 = true ∨ trues (l.foldl (lstep g) x).1 < trues x.1) := by
  induction l with
  | nil => intro x; exact ⟨rfl, Nat.le_refl _, fun h => .inl h⟩
  | cons s l ih =>
    intro x
    obtain ⟨h1, h2, h3⟩ := ih (lstep g x s)
    simp only [List.foldl_cons]
    rw [h1, lstep_len]
    refine ⟨rfl, ?_, fun h => ?_⟩
    · refine Nat.le_trans h2 ?_
      unfold lstep
      split
      · rename_i hs; simp at hs; have := trues_set (is := x.1) (s := s) (by simpa using hs.1); simp only; omega
      · exact Nat.le_refl _
    · by_cases hs : (x.1.getD s false && !onL g x.1 s) = true
      · have e : lstep g x s = (x.1.set s false, true) := by unfold lstep; rw [if_pos hs]
        rw [e] at h2 ⊢
        simp only [Bool.and_eq_true] at hs
        have := trues_set (is := x.1) (s := s) hs.1
        right; simp only at h2; omega
      · have e : lstep g x s = x := by unfold lstep; rw [if_neg hs]
        rw [e] at h3 h ⊢
        exact h3 h
theorem lpass_props (g : Gr) (is : List Bool) : (lpass g is).1.length = is.length ∧ trues (lpass g is).1 ≤ trues is ∧ ((lpass g is).2 = true → trues (lpass g is).1 < trues is) := by
  obtain ⟨h1, h2, h3⟩ := lfold_props g (List.range g.length) (is, false)
  refine ⟨h1, h2, fun h => ?_⟩
  rcases h3 h with k | k
  · cases k
  · exact k
theorem lrun_step {g : Gr} {f : Nat} {is : List Bool} (hf : trues is < f) : ∃ f', f = f' + 1 ∧ lrun g f is = if (lpass g is).2 = true then lrun g f' (lpass g is).1 else (lpass g is).1 := by
  obtain ⟨f', rfl⟩ : ∃ f', f = f' + 1 := ⟨f - 1, by omega⟩
  exact ⟨f', rfl, rfl⟩
theorem trues_le (is : List Bool) : trues is ≤ is.length := List.countP_le_length
/-- The states that run for ever, ascending. -/
def loopStates (g : Gr) : List Nat := (List.range g.length).filter fun s => (loopsL g).getD s false

/-- A table of truths that tells a likeness. -/
structure RelOk (g : Gr) (rel : List (List Bool)) : Prop where
  ok : GOk g
  len : rel.length = g.length
  rows : ∀ r ∈ rel, r.length = g.length
  fwd : ∀ s t, s < g.length → t < g.length → (rel.getD s []).getD t false = true → ∀ m ∈ rowOf g s, ∃ k ∈ rowOf g t, k.1 = m.1 ∧ (rel.getD m.2.toNat []).getD k.2.toNat false = true
  bwd : ∀ s t, s < g.length → t < g.length → (rel.getD s []).getD t false = true → ∀ k ∈ rowOf g t, ∃ m ∈ rowOf g s, m.1 = k.1 ∧ (rel.getD m.2.toNat []).getD k.2.toNat false = true
end Go.Proofs.Ytemhpkfijoodkaa.Asl
