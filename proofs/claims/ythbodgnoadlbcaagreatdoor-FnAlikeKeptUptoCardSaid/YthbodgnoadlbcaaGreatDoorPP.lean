/- Several texts in one. -/
/- Graphs in plain terms: moves in order, states that are reached. -/
namespace Go.Proofs.YthbodgnoadlbcaaGreatDoor.Asl

noncomputable def prB (p : Prop) : Bool := @decide p (Classical.propDecidable p)
theorem prB_iff {p : Prop} : prB p = true ↔ p := by simp [prB]
theorem prB_true {p : Prop} (h : p) : prB p = true := prB_iff.mpr h
theorem prB_false {p : Prop} (h : ¬ p) : prB p = false := by simp [prB, h]
theorem prB_eq {p : Prop} {b : Bool} (h : b = true ↔ p) : b = prB p := by
  cases b
  · exact (prB_false fun hp => by simpa using h.mpr hp).symm
  · exact (prB_true (h.mp rfl)).symm

abbrev Mv := Int × Int
abbrev Gr := List (List Mv)

def mlt (a b : Mv) : Bool := decide (a.1 < b.1 ∨ (a.1 = b.1 ∧ a.2 < b.2))
theorem mlt_iff {a b : Mv} : mlt a b = true ↔ a.1 < b.1 ∨ (a.1 = b.1 ∧ a.2 < b.2) := by simp [mlt]
theorem mlt_irrefl (a : Mv) : ¬ mlt a a = true := by rw [mlt_iff]; omega
theorem mlt_trans {a b c : Mv} (h : mlt a b = true) (k : mlt b c = true) : mlt a c = true := by rw [mlt_iff] at *; omega
theorem mlt_asymm {a b : Mv} (h : mlt a b = true) : ¬ mlt b a = true := fun k => mlt_irrefl a (mlt_trans h k)
theorem mlt_tri (a b : Mv) : mlt a b = true ∨ a = b ∨ mlt b a = true := by
  obtain ⟨a1, a2⟩ := a
  obtain ⟨b1, b2⟩ := b
  simp only [mlt_iff, Prod.mk.injEq]
  omega

def Srt (l : List Mv) : Prop := l.Pairwise fun a b => mlt a b = true

def insM (m : Mv) : List Mv → List Mv
  | [] => [m]
  | x :: xs => if mlt m x = true then m :: x :: xs else if m = x then x :: xs else x :: insM m xs
theorem mem_insM {m y : Mv} {l : List Mv} : y ∈ insM m l ↔ y = m ∨ y ∈ l := by
  induction l with
  | nil => simp [insM]
  | cons x xs ih =>
    unfold insM
    split
    · simp
    · split
      · rename_i h; subst h; simp
      · simp only [List.mem_cons, ih]
        constructor <;> (intro h; rcases h with h | h | h <;> simp [h])
theorem srt_insM {m : Mv} {l : List Mv} (h : Srt l) : Srt (insM m l) := by
  induction l with
  | nil => simp [insM, Srt]
  | cons x xs ih =>
    unfold Srt at h
    rw [List.pairwise_cons] at h
    obtain ⟨h1, h2⟩ := h
    unfold insM
    split
    · rename_i hm
      refine List.pairwise_cons.mpr ⟨fun y hy => ?_, List.pairwise_cons.mpr ⟨h1, h2⟩⟩
      rcases List.mem_cons.mp hy with rfl | hy
      · exact hm
      · exact mlt_trans hm (h1 y hy)
    · split
      · exact List.pairwise_cons.mpr ⟨h1, h2⟩
      · rename_i hm hne
        refine List.pairwise_cons.mpr ⟨fun y hy => ?_, ih h2⟩
        rcases mem_insM.mp hy with rfl | hy
        · rcases mlt_tri y x with k | k | k
          · exact absurd k hm
          · exact absurd k hne
          · exact k
        · exact h1 y hy
def tidyL (l : List Mv) : List Mv := l.foldl (fun out m => insM m out) []
theorem foldl_insM (l : List Mv) : ∀ out, Srt out → Srt (l.foldl (fun out m => insM m out) out) ∧ ∀ y, y ∈ l.foldl (fun out m => insM m out) out ↔ y ∈ out ∨ y ∈ l := by
  induction l with
  | nil => intro out h; exact ⟨h, fun y => by simp⟩
  | cons m l ih =>
    intro out h
    obtain ⟨h1, h2⟩ := ih _ (srt_insM (m := m) h)
    refine ⟨h1, fun y => ?_⟩
    simp only [List.foldl_cons]
    rw [h2 y, mem_insM, List.mem_cons]
    constructor
    · rintro ((h | h) | h)
      · exact .inr (.inl h)
      · exact .inl h
      · exact .inr (.inr h)
    · rintro (h | h | h)
      · exact .inl (.inr h)
      · exact .inl (.inl h)
      · exact .inr h
theorem srt_tidyL (l : List Mv) : Srt (tidyL l) := (foldl_insM l [] List.Pairwise.nil).1
theorem mem_tidyL {l : List Mv} {y : Mv} : y ∈ tidyL l ↔ y ∈ l := by
  have := (foldl_insM l [] List.Pairwise.nil).2 y
  simpa [tidyL] using this
theorem srt_unique : ∀ {a b : List Mv}, Srt a → Srt b → (∀ y, y ∈ a ↔ y ∈ b) → a = b
  | [], [], _, _, _ => rfl
  | [], y :: b, _, _, h => by have := (h y).mpr (by simp); simp at this
  | x :: a, [], _, _, h => by have := (h x).mp (by simp); simp at this
  | x :: a, y :: b, ha, hb, h => by
    obtain ⟨ha1, ha2⟩ := List.pairwise_cons.mp ha
    obtain ⟨hb1, hb2⟩ := List.pairwise_cons.mp hb
    have hxy : x = y := by
      rcases List.mem_cons.mp ((h x).mp (by simp)) with e | e
      · exact e
      · rcases List.mem_cons.mp ((h y).mpr (by simp)) with e' | e'
        · exact e'.symm
        · exact absurd (ha1 y e') (mlt_asymm (hb1 x e))
    subst hxy
    congr 1
    refine srt_unique ha2 hb2 fun z => ?_
    constructor
    · intro hz
      rcases List.mem_cons.mp ((h z).mp (List.mem_cons_of_mem _ hz)) with e | e
      · subst e; exact absurd (ha1 z hz) (mlt_irrefl z)
      · exact e
    · intro hz
      rcases List.mem_cons.mp ((h z).mpr (List.mem_cons_of_mem _ hz)) with e | e
      · subst e; exact absurd (hb1 z hz) (mlt_irrefl z)
      · exact e
theorem tidyL_eq {l r : List Mv} (hr : Srt r) (h : ∀ y, y ∈ r ↔ y ∈ l) : r = tidyL l :=
  srt_unique hr (srt_tidyL l) fun y => by rw [h, mem_tidyL]
theorem srt_get {l : List Mv} : Srt l ↔ ∀ (j : Nat) (a b : Mv), l[j]? = some a → l[j + 1]? = some b → mlt a b = true := by
  induction l with
  | nil => simp [Srt]
  | cons x l ih =>
    unfold Srt at ih ⊢
    rw [List.pairwise_cons, ih]
    constructor
    · rintro ⟨h1, h2⟩ j a b ha hb
      cases j with
      | zero => simp at ha hb; subst ha; exact h1 b (List.mem_of_getElem? hb)
      | succ j => exact h2 j a b (by simpa using ha) (by simpa using hb)
    · intro h
      have h2 : ∀ (j : Nat) (a b : Mv), l[j]? = some a → l[j + 1]? = some b → mlt a b = true := fun j a b ha hb => h (j + 1) a b (by simpa using ha) (by simpa using hb)
      refine ⟨fun y hy => ?_, h2⟩
      cases l with
      | nil => simp at hy
      | cons z l =>
        have hz : mlt x z = true := h 0 x z rfl rfl
        have hs : (z :: l).Pairwise fun a b => mlt a b = true := ih.mpr h2
        rcases List.mem_cons.mp hy with rfl | hy
        · exact hz
        · exact mlt_trans hz ((List.pairwise_cons.mp hs).1 y hy)
def compactL : List Mv → List Mv
  | [] => []
  | [x] => [x]
  | x :: y :: r => if x = y then compactL (y :: r) else x :: compactL (y :: r)
theorem mem_compactL : ∀ {l : List Mv} {y : Mv}, y ∈ compactL l ↔ y ∈ l
  | [], y => by simp [compactL]
  | [x], y => by simp [compactL]
  | x :: z :: r, y => by
    have ih := mem_compactL (l := z :: r) (y := y)
    unfold compactL
    split
    · rename_i h; subst h; rw [ih]; simp
    · rw [List.mem_cons, ih, List.mem_cons (a := y) (b := x)]
theorem srt_compactL : ∀ {l : List Mv}, (l.Pairwise fun a b => mlt b a = false) → Srt (compactL l)
  | [], _ => by simp [compactL, Srt]
  | [x], _ => by simp [compactL, Srt]
  | x :: z :: r, h => by
    obtain ⟨h1, h2⟩ := List.pairwise_cons.mp h
    have ih := srt_compactL h2
    unfold compactL
    split
    · exact ih
    · rename_i hne
      refine List.pairwise_cons.mpr ⟨fun y hy => ?_, ih⟩
      have hxz : mlt x z = true := by
        rcases mlt_tri x z with k | k | k
        · exact k
        · exact absurd k hne
        · have := h1 z (by simp); rw [k] at this; cases this
      rcases List.mem_cons.mp (mem_compactL.mp hy) with rfl | hy
      · exact hxz
      · have hzy := (List.pairwise_cons.mp h2).1 y hy
        rcases mlt_tri z y with k | k | k
        · exact mlt_trans hxz k
        · subst k; exact hxz
        · rw [k] at hzy; cases hzy
theorem compact_tidyL {l r : List Mv} (h : l.Pairwise fun a b => mlt b a = false) (hm : ∀ y, y ∈ l ↔ y ∈ r) : compactL l = tidyL r :=
  tidyL_eq (srt_compactL h) fun y => by rw [mem_compactL, hm]

structure GOk (g : Gr) : Prop where
  pos : 1 ≤ g.length
  most : g.length ≤ 60
  moves : ∀ l ∈ g, ∀ m ∈ l, (-4 ≤ m.1 ∧ m.1 ≤ 4) ∧ 0 ≤ m.2 ∧ m.2 < g.length
  srt : ∀ l ∈ g, Srt l

def rowOf (g : Gr) (s : Nat) : List Mv := g.getD s []
theorem rowOf_get {g : Gr} {s : Nat} (h : s < g.length) : g[s]? = some (rowOf g s) := by simp [rowOf, h]
theorem rowOf_eq {g : Gr} {s : Nat} (h : s < g.length) : rowOf g s = g[s] := by simp [rowOf, h]
theorem rowOf_mem {g : Gr} {s : Nat} (h : s < g.length) : rowOf g s ∈ g := List.mem_of_getElem? (rowOf_get h)
theorem rowOf_nil {g : Gr} {s : Nat} (h : ¬ s < g.length) : rowOf g s = [] := by simp [rowOf, Nat.not_lt.mp h]
theorem GOk.to {g : Gr} (h : GOk g) {s : Nat} {m : Mv} (hm : m ∈ rowOf g s) : (-4 ≤ m.1 ∧ m.1 ≤ 4) ∧ 0 ≤ m.2 ∧ m.2 < g.length ∧ m.2.toNat < g.length ∧ ((m.2.toNat : Nat) : Int) = m.2 := by
  have hs : s < g.length := by
    rcases Nat.lt_or_ge s g.length with k | k
    · exact k
    · rw [rowOf_nil (by omega)] at hm; simp at hm
  have := h.moves _ (rowOf_mem hs) m hm
  omega
def scan (out : List Nat) : List Mv → List Nat
  | [] => out
  | m :: ms => scan (if m.2.toNat ∈ out then out else out ++ [m.2.toNat]) ms
theorem scan_pre (ms : List Mv) : ∀ out, ∃ t, scan out ms = out ++ t := by
  induction ms with
  | nil => intro out; exact ⟨[], by simp [scan]⟩
  | cons m ms ih =>
    intro out
    obtain ⟨t, ht⟩ := ih (if m.2.toNat ∈ out then out else out ++ [m.2.toNat])
    unfold scan
    rw [ht]
    split
    · exact ⟨t, rfl⟩
    · exact ⟨m.2.toNat :: t, by simp⟩
theorem mem_scan {ms : List Mv} {x : Nat} : ∀ {out : List Nat}, x ∈ scan out ms ↔ x ∈ out ∨ ∃ m ∈ ms, m.2.toNat = x := by
  induction ms with
  | nil => intro out; simp [scan]
  | cons m ms ih =>
    intro out
    unfold scan
    rw [ih]
    split
    · rename_i h
      constructor
      · rintro (k | ⟨n, hn, rfl⟩)
        · exact .inl k
        · exact .inr ⟨n, by simp [hn], rfl⟩
      · rintro (k | ⟨n, hn, rfl⟩)
        · exact .inl k
        · rcases List.mem_cons.mp hn with rfl | hn
          · exact .inl h
          · exact .inr ⟨n, hn, rfl⟩
    · constructor
      · rintro (k | ⟨n, hn, rfl⟩)
        · rcases List.mem_append.mp k with k | k
          · exact .inl k
          · simp at k; exact .inr ⟨m, by simp, k.symm⟩
        · exact .inr ⟨n, by simp [hn], rfl⟩
      · rintro (k | ⟨n, hn, rfl⟩)
        · exact .inl (List.mem_append_left _ k)
        · rcases List.mem_cons.mp hn with rfl | hn
          · exact .inl (by simp)
          · exact .inr ⟨n, hn, rfl⟩
theorem scan_nodup {ms : List Mv} : ∀ {out : List Nat}, out.Nodup → (scan out ms).Nodup := by
  induction ms with
  | nil => intro out h; exact h
  | cons m ms ih =>
    intro out h
    unfold scan
    refine ih ?_
    split
    · exact h
    · rename_i hm
      rw [List.nodup_append]
      refine ⟨h, by simp, ?_⟩
      intro a ha b hb
      simp at hb; subst hb
      intro e; subst e; exact hm ha

theorem nodup_le : ∀ (n : Nat) (l : List Nat), l.Nodup → (∀ x ∈ l, x < n) → l.length ≤ n := by
  intro n
  induction n with
  | zero =>
    intro l _ h
    cases l with
    | nil => simp
    | cons x l => have := h x (by simp); omega
  | succ n ih =>
    intro l hn h
    by_cases hm : n ∈ l
    · have h1 := ih (l.erase n) (hn.erase n) (fun x hx => by
        have h2 := (hn.mem_erase_iff).mp hx
        have := h x h2.2
        have := h2.1; omega)
      rw [List.length_erase_of_mem hm] at h1
      have : 0 < l.length := List.length_pos_of_mem hm
      omega
    · have := ih l hn (fun x hx => by
        have := h x hx
        have : x ≠ n := fun e => hm (e ▸ hx)
        omega)
      omega

def bfs (g : Gr) : Nat → Nat → List Nat → List Nat
  | 0, _, out => out
  | f + 1, k, out => if k < out.length then bfs g f (k + 1) (scan out (rowOf g (out.getD k 0))) else out
structure Found (g : Gr) (s : Nat) (out : List Nat) : Prop where
  nodup : out.Nodup
  lt : ∀ x ∈ out, x < g.length
  first : out[0]? = some s
theorem Found.len {g : Gr} {s : Nat} {out : List Nat} (h : Found g s out) : out.length ≤ g.length := nodup_le _ _ h.nodup h.lt
theorem Found.pos {g : Gr} {s : Nat} {out : List Nat} (h : Found g s out) : 0 < out.length := by
  rcases Nat.eq_zero_or_pos out.length with k | k
  · have := h.first; rw [List.getElem?_eq_none (by omega)] at this; cases this
  · exact k
theorem Found.scan {g : Gr} {s : Nat} {out : List Nat} (h : Found g s out) {ms : List Mv} (hm : ∀ m ∈ ms, 0 ≤ m.2 ∧ m.2 < g.length) : Found g s (Asl.scan out ms) := by
  refine ⟨scan_nodup h.nodup, fun x hx => ?_, ?_⟩
  · rcases mem_scan.mp hx with k | ⟨m, hm', rfl⟩
    · exact h.lt x k
    · have := hm m hm'; omega
  · obtain ⟨t, ht⟩ := scan_pre ms out
    rw [ht, List.getElem?_append_left h.pos]; exact h.first
theorem Found.start {g : Gr} {s : Nat} (h : s < g.length) : Found g s [s] := ⟨by simp, by simpa using h, rfl⟩
theorem Found.next {g : Gr} (hg : GOk g) {s : Nat} {out : List Nat} (h : Found g s out) (k : Nat) : Found g s (Asl.scan out (rowOf g (out.getD k 0))) :=
  h.scan fun m hm => by have := hg.to hm; omega
def fromL (g : Gr) (s : Nat) : List Nat := bfs g g.length 0 [s]

def Closed (g : Gr) (p : Nat → Prop) : Prop := ∀ x, p x → ∀ m ∈ rowOf g x, p m.2.toNat
theorem bfs_props {g : Gr} (hg : GOk g) {s : Nat} : ∀ (f k : Nat) (out : List Nat), Found g s out → k ≤ out.length → g.length ≤ f + k → (∀ j, j < k → ∀ m ∈ rowOf g (out.getD j 0), m.2.toNat ∈ out) →
    (∀ p, Closed g p → p s → ∀ x ∈ out, p x) → Found g s (bfs g f k out) ∧ (∀ x ∈ bfs g f k out, ∀ m ∈ rowOf g x, m.2.toNat ∈ bfs g f k out) ∧ (∀ p, Closed g p → p s → ∀ x ∈ bfs g f k out, p x) := by
  have fin : ∀ (k : Nat) (out : List Nat), k = out.length → (∀ j, j < k → ∀ m ∈ rowOf g (out.getD j 0), m.2.toNat ∈ out) → ∀ x ∈ out, ∀ m ∈ rowOf g x, m.2.toNat ∈ out := by
    intro k out hk h x hx m hm
    obtain ⟨j, hj, rfl⟩ := List.getElem_of_mem hx
    exact h j (by omega) m (by simpa [hj] using hm)
  intro f
  induction f with
  | zero =>
    intro k out hF hk hf hc hp
    have := hF.len
    exact ⟨hF, fin k out (by omega) hc, hp⟩
  | succ f ih =>
    intro k out hF hk hf hc hp
    by_cases h : k < out.length
    · simp only [bfs, if_pos h]
      obtain ⟨t, ht⟩ := scan_pre (rowOf g (out.getD k 0)) out
      have hget : ∀ j, j < out.length → (scan out (rowOf g (out.getD k 0))).getD j 0 = out.getD j 0 := by
        intro j hj
        rw [ht]; simp [List.getD_eq_getElem?_getD, List.getElem?_append_left hj]
      refine ih (k + 1) _ (hF.next hg k) (by rw [ht]; simp; omega) (by omega) ?_ ?_
      · intro j hj m hm
        rw [hget j (by omega)] at hm
        rw [mem_scan]
        by_cases e : j = k
        · subst e; exact .inr ⟨m, hm, rfl⟩
        · exact .inl (hc j (by omega) m hm)
      · intro p hpc hps x hx
        rcases mem_scan.mp hx with k1 | ⟨m, hm, rfl⟩
        · exact hp p hpc hps x k1
        · refine hpc _ (hp p hpc hps (out.getD k 0) ?_) m hm
          simp [List.getD_eq_getElem?_getD, h]
    · simp only [bfs, if_neg h]
      exact ⟨hF, fin k out (by omega) hc, hp⟩
theorem from_props {g : Gr} (hg : GOk g) {s : Nat} (hs : s < g.length) : Found g s (fromL g s) ∧ (∀ x ∈ fromL g s, ∀ m ∈ rowOf g x, m.2.toNat ∈ fromL g s) ∧ (∀ p, Closed g p → p s → ∀ x ∈ fromL g s, p x) :=
  bfs_props hg _ 0 [s] (Found.start hs) (by simp) (by omega) (by simp) (fun p _ h x hx => by simp at hx; subst hx; exact h)
theorem from_mem {g : Gr} (hg : GOk g) {s : Nat} (hs : s < g.length) : s ∈ fromL g s := List.mem_of_getElem? (from_props hg hs).1.first

def reachL (g : Gr) : List Nat := (List.range g.length).filter fun s => decide (s ∈ fromL g 0)
def partL (g : Gr) (s : Nat) : Gr := (fromL g s).map fun k => tidyL ((rowOf g k).map fun m => (m.1, (((fromL g s).idxOf m.2.toNat : Nat) : Int)))
def bothL (a b : Gr) : Gr := a ++ b.map fun (l : List Mv) => l.map fun (m : Mv) => ((m.1, m.2 + (a.length : Int)) : Mv)
end Go.Proofs.YthbodgnoadlbcaaGreatDoor.Asl

/- Graphs in plain terms: rounds, classes, likenesses, loops. -/
namespace Go.Proofs.YthbodgnoadlbcaaGreatDoor.Asl

def sigL (g : Gr) (c : List Nat) (s : Nat) : List Mv := tidyL ((rowOf g s).map fun m => ((m.1, ((c.getD m.2.toNat 0 : Nat) : Int)) : Mv))
def SameC (g : Gr) (c : List Nat) (r s : Nat) : Prop := c.getD r 0 = c.getD s 0 ∧ sigL g c r = sigL g c s
instance (g : Gr) (c : List Nat) (r s : Nat) : Decidable (SameC g c r s) := by unfold SameC; infer_instance
theorem SameC.refl (g : Gr) (c : List Nat) (s : Nat) : SameC g c s s := ⟨rfl, rfl⟩
theorem SameC.symm {g : Gr} {c : List Nat} {r s : Nat} (h : SameC g c r s) : SameC g c s r := ⟨h.1.symm, h.2.symm⟩
theorem SameC.trans {g : Gr} {c : List Nat} {r s t : Nat} (h : SameC g c r s) (k : SameC g c s t) : SameC g c r t := ⟨h.1.trans k.1, h.2.trans k.2⟩
def HasC (g : Gr) (c : List Nat) (s : Nat) (a : Int) (k : Nat) : Prop := ∃ m ∈ rowOf g s, m.1 = a ∧ c.getD m.2.toNat 0 = k
def CoversC (g : Gr) (c : List Nat) (s t : Nat) : Prop := ∀ m ∈ rowOf g s, HasC g c t m.1 (c.getD m.2.toNat 0)
theorem mem_sig {g : Gr} {c : List Nat} {s : Nat} {y : Mv} : y ∈ sigL g c s ↔ ∃ m ∈ rowOf g s, m.1 = y.1 ∧ ((c.getD m.2.toNat 0 : Nat) : Int) = y.2 := by
  unfold sigL
  rw [mem_tidyL, List.mem_map]
  constructor
  · rintro ⟨m, hm, rfl⟩; exact ⟨m, hm, rfl, rfl⟩
  · rintro ⟨m, hm, h1, h2⟩; exact ⟨m, hm, Prod.ext h1 h2⟩
theorem sig_iff {g : Gr} {c : List Nat} {s t : Nat} : sigL g c s = sigL g c t ↔ CoversC g c s t ∧ CoversC g c t s := by
  have key : ∀ s t, (∀ y, y ∈ sigL g c s → y ∈ sigL g c t) ↔ CoversC g c s t := by
    intro s t
    constructor
    · intro h m hm
      obtain ⟨k, hk, h1, h2⟩ := mem_sig.mp (h (m.1, ((c.getD m.2.toNat 0 : Nat) : Int)) (mem_sig.mpr ⟨m, hm, rfl, rfl⟩))
      exact ⟨k, hk, h1, Int.ofNat_inj.mp h2⟩
    · intro h y hy
      obtain ⟨m, hm, h1, h2⟩ := mem_sig.mp hy
      obtain ⟨k, hk, h3, h4⟩ := h m hm
      exact mem_sig.mpr ⟨k, hk, h3.trans h1, by rw [h4]; exact h2⟩
  rw [← key, ← key]
  constructor
  · intro h; rw [h]; exact ⟨fun _ h => h, fun _ h => h⟩
  · intro h
    exact srt_unique (srt_tidyL _) (srt_tidyL _) fun y => ⟨h.1 y, h.2 y⟩
def leastC (g : Gr) (c : List Nat) (s : Nat) : Nat := ((List.range s).find? fun r => decide (SameC g c r s)).getD s
theorem leastC_spec (g : Gr) (c : List Nat) (s : Nat) : leastC g c s ≤ s ∧ SameC g c (leastC g c s) s ∧ ∀ t, t < leastC g c s → ¬ SameC g c t s := by
  unfold leastC
  cases h : (List.range s).find? fun r => decide (SameC g c r s) with
  | none =>
    simp only [Option.getD_none]
    refine ⟨Nat.le_refl _, .refl _ _ _, fun t ht hs => ?_⟩
    have := (List.find?_eq_none.mp h) t (by simpa using ht)
    simp at this; exact this hs
  | some r =>
    simp only [Option.getD_some]
    have h1 : SameC g c r s := by have := List.find?_some h; simpa using this
    have h2 : r < s := by have := List.mem_of_find?_eq_some h; simpa using this
    refine ⟨by omega, h1, fun t ht hs => ?_⟩
    have h3 := List.find?_range_eq_some.mp h
    have := h3.2.2 t ht
    simp at this; exact this hs
theorem leastC_eq {g : Gr} {c : List Nat} {s r : Nat} (h2 : SameC g c r s) (h3 : ∀ t, t < r → ¬ SameC g c t s) : leastC g c s = r := by
  obtain ⟨k1, k2, k3⟩ := leastC_spec g c s
  rcases Nat.lt_trichotomy (leastC g c s) r with h | h | h
  · exact absurd k2 (h3 _ h)
  · exact h
  · exact absurd h2 (k3 _ h)
def nextC (g : Gr) (c : List Nat) : List Nat := (List.range c.length).map (leastC g c)
theorem nextC_length (g : Gr) (c : List Nat) : (nextC g c).length = c.length := by simp [nextC]
theorem nextC_get {g : Gr} {c : List Nat} {s : Nat} (h : s < c.length) : (nextC g c).getD s 0 = leastC g c s := by
  simp [nextC, List.getD_eq_getElem?_getD, h]
theorem leastC_iff {g : Gr} {c : List Nat} {s t : Nat} : leastC g c s = leastC g c t ↔ SameC g c s t := by
  obtain ⟨a1, a2, a3⟩ := leastC_spec g c s
  obtain ⟨b1, b2, b3⟩ := leastC_spec g c t
  constructor
  · intro h; rw [h] at a2; exact a2.symm.trans b2
  · intro h
    rcases Nat.lt_trichotomy (leastC g c s) (leastC g c t) with k | k | k
    · exact absurd (a2.trans h) (b3 _ k)
    · exact k
    · exact absurd (b2.trans h.symm) (a3 _ k)
theorem leastC_least (g : Gr) (c : List Nat) (s : Nat) : leastC g c (leastC g c s) = leastC g c s := leastC_iff.mpr (leastC_spec g c s).2.1

structure Canon (c : List Nat) : Prop where
  le : ∀ s, s < c.length → c.getD s 0 ≤ s
  idem : ∀ s, s < c.length → c.getD (c.getD s 0) 0 = c.getD s 0
theorem Canon.next (g : Gr) (c : List Nat) : Canon (nextC g c) := by
  refine ⟨fun s hs => ?_, fun s hs => ?_⟩
  · rw [nextC_length] at hs; rw [nextC_get hs]; exact (leastC_spec g c s).1
  · rw [nextC_length] at hs
    have := (leastC_spec g c s).1
    rw [nextC_get hs, nextC_get (by omega), leastC_least]
theorem Canon.zero (n : Nat) : Canon (List.replicate n 0) := by
  have h : ∀ s, (List.replicate n 0).getD s 0 = 0 := fun s => by
    rw [List.getD_eq_getElem?_getD, List.getElem?_replicate]; split <;> rfl
  exact ⟨fun s _ => by rw [h]; omega, fun s _ => by rw [h, h]⟩
def reps (c : List Nat) : List Nat := (List.range c.length).filter fun s => decide (c.getD s 0 = s)
theorem filter_lt {α : Type} {p q : α → Bool} : ∀ {l : List α}, (∀ x ∈ l, p x = true → q x = true) → (∃ x ∈ l, q x = true ∧ p x = false) → (l.filter p).length < (l.filter q).length
  | [], _, h => by obtain ⟨x, hx, _⟩ := h; simp at hx
  | y :: l, h, hx => by
    have hle : ∀ l : List α, (∀ x ∈ l, p x = true → q x = true) → (l.filter p).length ≤ (l.filter q).length := by
      intro l
      induction l with
      | nil => intro _; simp
      | cons z l ih =>
        intro h
        have := ih (fun x hx => h x (by simp [hx]))
        have hz := h z (by simp)
        rw [List.filter_cons, List.filter_cons]
        split
        · rename_i hp; rw [if_pos (hz hp)]; simp; omega
        · split
          · simp; omega
          · exact this
    have hl := hle l (fun x hx => h x (by simp [hx]))
    rw [List.filter_cons, List.filter_cons]
    obtain ⟨x, hxm, hq, hp⟩ := hx
    rcases List.mem_cons.mp hxm with rfl | hxm
    · rw [if_pos hq, if_neg (by simp [hp])]; simp; omega
    · have := filter_lt (l := l) (fun x hx => h x (by simp [hx])) ⟨x, hxm, hq, hp⟩
      have hy := h y (by simp)
      split
      · rename_i hpy; rw [if_pos (hy hpy)]; simp; omega
      · split
        · simp; omega
        · exact this
theorem canon_ext {c d : List Nat} (hl : c.length = d.length) (h : ∀ s, s < c.length → c.getD s 0 = d.getD s 0) : c = d := by
  apply List.ext_getElem hl
  intro s h1 h2
  have := h s h1
  simpa [List.getD_eq_getElem?_getD, h1, h2] using this
theorem reps_lt {g : Gr} {c : List Nat} (hc : Canon c) (hne : nextC g c ≠ c) : (reps c).length < (reps (nextC g c)).length := by
  unfold reps
  rw [nextC_length]
  have hsub : ∀ s, s < c.length → c.getD s 0 = s → (nextC g c).getD s 0 = s := by
    intro s hs h
    rw [nextC_get hs]
    obtain ⟨k1, k2, _⟩ := leastC_spec g c s
    have := hc.le (leastC g c s) (by omega)
    have := k2.1
    omega
  refine filter_lt (fun s hs h => ?_) ?_
  · simp at hs h ⊢; exact hsub s hs h
  · apply Classical.byContradiction
    intro hno
    have hno : ∀ s, s < c.length → (nextC g c).getD s 0 = s → c.getD s 0 = s := by
      intro s hs h
      apply Classical.byContradiction
      intro hk
      exact hno ⟨s, by simpa using hs, by simpa using h, by simpa using hk⟩
    refine hne (canon_ext (nextC_length _ _) fun s hs => ?_)
    rw [nextC_length] at hs
    obtain ⟨k1, k2, _⟩ := leastC_spec g c s
    have h1 := hno (leastC g c s) (by omega) (by rw [nextC_get (by omega), leastC_least])
    rw [nextC_get hs, ← k2.1, h1]
theorem reps_le (c : List Nat) : (reps c).length ≤ c.length := by
  have := List.length_filter_le (fun s => decide (c.getD s 0 = s)) (List.range c.length)
  simpa [reps] using this

def rnds (g : Gr) : Nat → List Nat → List (List Nat)
  | 0, c => [c]
  | f + 1, c => if nextC g c = c then [c] else c :: rnds g f (nextC g c)
def roundsL (g : Gr) : List (List Nat) := rnds g g.length (List.replicate g.length 0)
theorem rnds_done {g : Gr} {f : Nat} {c : List Nat} (h : nextC g c = c) : rnds g f c = [c] := by
  cases f with
  | zero => rfl
  | succ f => simp only [rnds, if_pos h]
theorem rnds_step {g : Gr} {f : Nat} {c : List Nat} (hc : Canon c) (h : nextC g c ≠ c) (hf : c.length ≤ f + (reps c).length) : ∃ f', f = f' + 1 ∧ c.length ≤ f' + (reps (nextC g c)).length ∧ rnds g f c = c :: rnds g f' (nextC g c) := by
  have h1 := reps_lt hc h
  have h2 := reps_le (nextC g c)
  rw [nextC_length] at h2
  obtain ⟨f', rfl⟩ : ∃ f', f = f' + 1 := ⟨f - 1, by omega⟩
  exact ⟨f', rfl, by omega, by simp only [rnds, if_neg h]⟩
theorem rnds_props {g : Gr} (p : List Nat → Prop) (hp : ∀ c, p c → p (nextC g c)) : ∀ (f : Nat) (c : List Nat), Canon c → p c → c.length ≤ f + (reps c).length →
    (∀ d ∈ rnds g f c, p d ∧ Canon d ∧ d.length = c.length) ∧ (∃ pre d, rnds g f c = pre ++ [d] ∧ nextC g d = d) ∧ (rnds g f c).length + (reps c).length ≤ c.length + 1 ∧
    ∀ k d e, (rnds g f c)[k]? = some d → (rnds g f c)[k + 1]? = some e → e = nextC g d ∧ e ≠ d := by
  have done : ∀ (f : Nat) (c : List Nat), Canon c → p c → nextC g c = c → (∀ d ∈ rnds g f c, p d ∧ Canon d ∧ d.length = c.length) ∧ (∃ pre d, rnds g f c = pre ++ [d] ∧ nextC g d = d) ∧ (rnds g f c).length + (reps c).length ≤ c.length + 1 ∧
      ∀ k d e, (rnds g f c)[k]? = some d → (rnds g f c)[k + 1]? = some e → e = nextC g d ∧ e ≠ d := by
    intro f c hc hpc h
    rw [rnds_done h]
    refine ⟨fun d hd => ?_, ⟨[], c, rfl, h⟩, ?_, fun k d e _ he => by simp at he⟩
    · simp at hd; subst hd; exact ⟨hpc, hc, rfl⟩
    · have := reps_le c; simp; omega
  intro f
  induction f with
  | zero =>
    intro c hc hpc hf
    refine done 0 c hc hpc ?_
    apply Classical.byContradiction
    intro h
    have := reps_lt hc h
    have := reps_le (nextC g c)
    rw [nextC_length] at this; omega
  | succ f ih =>
    intro c hc hpc hf
    by_cases h : nextC g c = c
    · exact done _ c hc hpc h
    · obtain ⟨f', hf', h1, h2⟩ := rnds_step hc h hf
      obtain rfl : f = f' := by omega
      obtain ⟨i1, ⟨pre, d, i2, i3⟩, i4, i5⟩ := ih (nextC g c) (Canon.next g c) (hp c hpc) (by rw [nextC_length]; exact h1)
      have hlt := reps_lt hc h
      rw [h2]
      refine ⟨fun d hd => ?_, ⟨c :: pre, d, by rw [i2]; rfl, i3⟩, ?_, ?_⟩
      · rcases List.mem_cons.mp hd with rfl | hd
        · exact ⟨hpc, hc, rfl⟩
        · obtain ⟨j1, j2, j3⟩ := i1 d hd
          exact ⟨j1, j2, by rw [j3, nextC_length]⟩
      · rw [nextC_length] at i4
        simp only [List.length_cons]; omega
      · intro k d e hd he
        cases k with
        | zero =>
          simp at hd he
          subst hd
          have : (rnds g f (nextC g c))[0]? = some (nextC g c) := by
            cases f with
            | zero => rfl
            | succ f => unfold rnds; split <;> rfl
          rw [this] at he; cases he
          exact ⟨rfl, h⟩
        | succ k => exact i5 k d e (by simpa using hd) (by simpa using he)
def lastC (g : Gr) : List Nat := (roundsL g).getLast?.getD []

def Bis (g : Gr) (R : Nat → Nat → Prop) : Prop := ∀ s t, R s t → (s < g.length ∧ t < g.length) ∧ (∀ m ∈ rowOf g s, ∃ k ∈ rowOf g t, k.1 = m.1 ∧ R m.2.toNat k.2.toNat) ∧ (∀ k ∈ rowOf g t, ∃ m ∈ rowOf g s, m.1 = k.1 ∧ R m.2.toNat k.2.toNat)
theorem bis_same {g : Gr} {R : Nat → Nat → Prop} (h : Bis g R) {c : List Nat} (hl : c.length = g.length) (hc : ∀ s t, R s t → c.getD s 0 = c.getD t 0) {s t : Nat} (hR : R s t) : (nextC g c).getD s 0 = (nextC g c).getD t 0 := by
  obtain ⟨⟨hs, ht⟩, h1, h2⟩ := h s t hR
  rw [nextC_get (by omega), nextC_get (by omega), leastC_iff]
  refine ⟨hc s t hR, sig_iff.mpr ⟨fun m hm => ?_, fun k hk => ?_⟩⟩
  · obtain ⟨k, hk, e, r⟩ := h1 m hm
    exact ⟨k, hk, e, (hc _ _ r).symm⟩
  · obtain ⟨m, hm, e, r⟩ := h2 k hk
    exact ⟨m, hm, e, hc _ _ r⟩
theorem rounds_props {g : Gr} (p : List Nat → Prop) (h0 : p (List.replicate g.length 0)) (hp : ∀ c, p c → p (nextC g c)) :
    (∀ d ∈ roundsL g, p d ∧ Canon d ∧ d.length = g.length) ∧ (∃ pre d, roundsL g = pre ++ [d] ∧ nextC g d = d) ∧ (roundsL g).length + (reps (List.replicate g.length 0)).length ≤ g.length + 1 ∧
    ∀ k d e, (roundsL g)[k]? = some d → (roundsL g)[k + 1]? = some e → e = nextC g d ∧ e ≠ d := by
  have := rnds_props (g := g) p hp g.length (List.replicate g.length 0) (Canon.zero _) h0 (by simp)
  simpa [roundsL] using this
theorem lastC_props {g : Gr} (p : List Nat → Prop) (h0 : p (List.replicate g.length 0)) (hp : ∀ c, p c → p (nextC g c)) : p (lastC g) ∧ Canon (lastC g) ∧ (lastC g).length = g.length ∧ nextC g (lastC g) = lastC g := by
  obtain ⟨h1, ⟨pre, d, h2, h3⟩, _⟩ := rounds_props p h0 hp
  have : lastC g = d := by unfold lastC; rw [h2]; simp
  obtain ⟨k1, k2, k3⟩ := h1 d (by rw [h2]; simp)
  rw [this]
  exact ⟨k1, k2, k3, h3⟩
theorem lastC_len (g : Gr) : (lastC g).length = g.length := (lastC_props (fun _ => True) trivial (fun _ _ => trivial)).2.2.1
theorem lastC_canon (g : Gr) : Canon (lastC g) := (lastC_props (fun _ => True) trivial (fun _ _ => trivial)).2.1
theorem lastC_next (g : Gr) : nextC g (lastC g) = lastC g := (lastC_props (fun _ => True) trivial (fun _ _ => trivial)).2.2.2
theorem bis_rounds {g : Gr} {R : Nat → Nat → Prop} (h : Bis g R) : ∀ c ∈ roundsL g, ∀ s t, R s t → c.getD s 0 = c.getD t 0 := by
  intro c hc
  have hz : ∀ s n, (List.replicate n 0).getD s 0 = 0 := fun s n => by rw [List.getD_eq_getElem?_getD, List.getElem?_replicate]; split <;> rfl
  have := ((rounds_props (g := g) (fun c => c.length = g.length ∧ ∀ s t, R s t → c.getD s 0 = c.getD t 0) ⟨by simp, fun s t _ => by rw [hz, hz]⟩ (fun c hc => ⟨by rw [nextC_length]; exact hc.1, fun s t hR => bis_same h hc.1 hc.2 hR⟩)).1 c hc).1
  exact this.2
theorem bis_last {g : Gr} {R : Nat → Nat → Prop} (h : Bis g R) {s t : Nat} (hR : R s t) : (lastC g).getD s 0 = (lastC g).getD t 0 := by
  have hm : lastC g ∈ roundsL g := by
    obtain ⟨_, ⟨pre, d, h2, _⟩, _⟩ := rounds_props (g := g) (fun _ => True) trivial (fun _ _ => trivial)
    unfold lastC; rw [h2]; simp
  exact bis_rounds h _ hm s t hR
theorem last_bis {g : Gr} (hg : GOk g) : Bis g fun s t => (s < g.length ∧ t < g.length) ∧ (lastC g).getD s 0 = (lastC g).getD t 0 := by
  rintro s t ⟨⟨hs, ht⟩, h⟩
  have hl := lastC_len g
  rw [← lastC_next g, nextC_get (by omega), nextC_get (by omega), leastC_iff] at h
  obtain ⟨h1, h2⟩ := sig_iff.mp h.2
  refine ⟨⟨hs, ht⟩, fun m hm => ?_, fun k hk => ?_⟩
  · obtain ⟨k, hk, e, c⟩ := h1 m hm
    have := hg.to hm
    have := hg.to hk
    exact ⟨k, hk, e, ⟨by omega, by omega⟩, c.symm⟩
  · obtain ⟨m, hm, e, c⟩ := h2 k hk
    have := hg.to hm
    have := hg.to hk
    exact ⟨m, hm, e, ⟨by omega, by omega⟩, c⟩
theorem last_iff {g : Gr} (hg : GOk g) {s t : Nat} (hs : s < g.length) (ht : t < g.length) : (lastC g).getD s 0 = (lastC g).getD t 0 ↔ ∃ R, Bis g R ∧ R s t :=
  ⟨fun h => ⟨_, last_bis hg, ⟨hs, ht⟩, h⟩, fun ⟨_, h, k⟩ => bis_last h k⟩

def foldG (g : Gr) (c : List Nat) : Gr := (reps c).map fun s => tidyL ((rowOf g s).map fun m => ((m.1, (((reps c).idxOf (c.getD m.2.toNat 0) : Nat) : Int)) : Mv))

def onL (g : Gr) (is : List Bool) (s : Nat) : Bool := (rowOf g s).any fun m => decide (m.1 = 0) && is.getD m.2.toNat false
def lstep (g : Gr) (x : List Bool × Bool) (s : Nat) : List Bool × Bool := if (x.1.getD s false && !onL g x.1 s) = true then (x.1.set s false, true) else x
def lpass (g : Gr) (is : List Bool) : List Bool × Bool := (List.range g.length).foldl (lstep g) (is, false)
def lrun (g : Gr) : Nat → List Bool → List Bool
  | 0, is => is
  | f + 1, is => if (lpass g is).2 = true then lrun g f (lpass g is).1 else (lpass g is).1
def loopsL (g : Gr) : List Bool := lrun g (g.length + 1) (List.replicate g.length true)
def trues (is : List Bool) : Nat := is.countP id
def loopStates (g : Gr) : List Nat := (List.range g.length).filter fun s => (loopsL g).getD s false

structure RelOk (g : Gr) (rel : List (List Bool)) : Prop where
  ok : GOk g
  len : rel.length = g.length
  rows : ∀ r ∈ rel, r.length = g.length
  fwd : ∀ s t, s < g.length → t < g.length → (rel.getD s []).getD t false = true → ∀ m ∈ rowOf g s, ∃ k ∈ rowOf g t, k.1 = m.1 ∧ (rel.getD m.2.toNat []).getD k.2.toNat false = true
  bwd : ∀ s t, s < g.length → t < g.length → (rel.getD s []).getD t false = true → ∀ k ∈ rowOf g t, ∃ m ∈ rowOf g s, m.1 = k.1 ∧ (rel.getD m.2.toNat []).getD k.2.toNat false = true
end Go.Proofs.YthbodgnoadlbcaaGreatDoor.Asl

/- Graphs in plain terms: put together, parts, folds; the plain laws. -/
namespace Go.Proofs.YthbodgnoadlbcaaGreatDoor.Asl

theorem both_len (a b : Gr) : (bothL a b).length = a.length + b.length := by simp [bothL]
theorem both_row_lt {a b : Gr} {s : Nat} (h : s < a.length) : rowOf (bothL a b) s = rowOf a s := by
  simp [rowOf, bothL, List.getD_eq_getElem?_getD, List.getElem?_append_left h]
theorem both_row_ge (a b : Gr) (s : Nat) : rowOf (bothL a b) (a.length + s) = (rowOf b s).map fun (m : Mv) => ((m.1, m.2 + (a.length : Int)) : Mv) := by
  unfold rowOf bothL
  rw [List.getD_eq_getElem?_getD, List.getElem?_append_right (by omega), Nat.add_sub_cancel_left, List.getElem?_map, List.getD_eq_getElem?_getD]
  cases b[s]? <;> rfl
theorem srt_shift {l : List Mv} (h : Srt l) (n : Int) : Srt (l.map fun (m : Mv) => ((m.1, m.2 + n) : Mv)) := by
  unfold Srt at *
  rw [List.pairwise_map]
  exact h.imp fun {a b} hab => by rw [mlt_iff] at *; simp only; omega
theorem both_ok {a b : Gr} (ha : GOk a) (hb : GOk b) (h : a.length + b.length ≤ 60) : GOk (bothL a b) := by
  have := ha.pos
  refine ⟨by rw [both_len]; omega, by rw [both_len]; exact h, fun l hl m hm => ?_, fun l hl => ?_⟩
  · rw [both_len]
    rcases List.mem_append.mp hl with hl | hl
    · have := ha.moves l hl m hm; omega
    · obtain ⟨l', hl', rfl⟩ := List.mem_map.mp hl
      obtain ⟨m', hm', rfl⟩ := List.mem_map.mp hm
      have := hb.moves l' hl' m' hm'
      simp only; omega
  · rcases List.mem_append.mp hl with hl | hl
    · exact ha.srt l hl
    · obtain ⟨l', hl', rfl⟩ := List.mem_map.mp hl
      exact srt_shift (hb.srt l' hl') _

def Bis2 (a b : Gr) (R : Nat → Nat → Prop) : Prop := ∀ s i, R s i → (s < a.length ∧ i < b.length) ∧ (∀ m ∈ rowOf a s, ∃ k ∈ rowOf b i, k.1 = m.1 ∧ R m.2.toNat k.2.toNat) ∧ (∀ k ∈ rowOf b i, ∃ m ∈ rowOf a s, m.1 = k.1 ∧ R m.2.toNat k.2.toNat)
theorem both_of_bis2 {a b : Gr} (ha : GOk a) (hb : GOk b) {R : Nat → Nat → Prop} (h : Bis2 a b R) : Bis (bothL a b) fun x y => ∃ i, y = a.length + i ∧ R x i := by
  rintro s _ ⟨i, rfl, hR⟩
  obtain ⟨⟨hs, hi⟩, h1, h2⟩ := h s i hR
  rw [both_len, both_row_lt hs, both_row_ge]
  refine ⟨⟨by omega, by omega⟩, fun m hm => ?_, fun k hk => ?_⟩
  · obtain ⟨k, hk, e, r⟩ := h1 m hm
    have := hb.to hk
    exact ⟨_, List.mem_map_of_mem hk, e, k.2.toNat, by simp only; omega, r⟩
  · obtain ⟨k, hk1, rfl⟩ := List.mem_map.mp hk
    have hk := hk1
    obtain ⟨m, hm, e, r⟩ := h2 k hk
    have := hb.to hk
    exact ⟨m, hm, e, k.2.toNat, by simp only; omega, r⟩
theorem bis2_of_both {a b : Gr} (ha : GOk a) (hb : GOk b) {R : Nat → Nat → Prop} (h : Bis (bothL a b) R) : Bis2 a b fun s i => (s < a.length ∧ i < b.length) ∧ R s (a.length + i) := by
  rintro s i ⟨⟨hs, hi⟩, hR⟩
  obtain ⟨_, h1, h2⟩ := h _ _ hR
  rw [both_row_lt hs, both_row_ge] at h1 h2
  refine ⟨⟨hs, hi⟩, fun m hm => ?_, fun k hk => ?_⟩
  · obtain ⟨k, hk, e, r⟩ := h1 m hm
    obtain ⟨k, hk1, rfl⟩ := List.mem_map.mp hk
    have hk := hk1
    have h3 := ha.to hm
    have h4 := hb.to hk
    refine ⟨k, hk, e, ⟨by omega, by omega⟩, ?_⟩
    rwa [show (k.2 + (a.length : Int)).toNat = a.length + k.2.toNat by omega] at r
  · obtain ⟨m, hm, e, r⟩ := h2 _ (List.mem_map_of_mem hk)
    have h3 := ha.to hm
    have h4 := hb.to hk
    refine ⟨m, hm, e, ⟨by omega, by omega⟩, ?_⟩
    rwa [show (k.2 + (a.length : Int)).toNat = a.length + k.2.toNat by omega] at r
theorem both_iff {a b : Gr} (ha : GOk a) (hb : GOk b) (h60 : a.length + b.length ≤ 60) {s i : Nat} (hs : s < a.length) (hi : i < b.length) :
    (lastC (bothL a b)).getD s 0 = (lastC (bothL a b)).getD (a.length + i) 0 ↔ ∃ R, Bis2 a b R ∧ R s i := by
  rw [last_iff (both_ok ha hb h60) (by rw [both_len]; omega) (by rw [both_len]; omega)]
  constructor
  · rintro ⟨R, h, k⟩
    exact ⟨_, bis2_of_both ha hb h, ⟨hs, hi⟩, k⟩
  · rintro ⟨R, h, k⟩
    exact ⟨_, both_of_bis2 ha hb h, i, rfl, k⟩
theorem last_zero (g : Gr) : (lastC g).getD 0 0 = 0 := by
  rcases Nat.eq_zero_or_pos (lastC g).length with h | h
  · simp [List.getD_eq_getElem?_getD, List.getElem?_eq_none (show (lastC g).length ≤ 0 by omega)]
  · have := (lastC_canon g).le 0 h; omega
theorem getD_some {l : List Nat} {i x : Nat} (h : l[i]? = some x) : l.getD i 0 = x := by simp [List.getD_eq_getElem?_getD, h]
def classRel (c : List Nat) : List (List Bool) := (List.range c.length).map fun s => (List.range c.length).map fun t => decide (c.getD s 0 = c.getD t 0)
end Go.Proofs.YthbodgnoadlbcaaGreatDoor.Asl
