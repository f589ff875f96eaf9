/- The graph of a term, plainly. -/
import Derived.Test.YthbodgnoadlbcaaGreatDoorT24
import Derived.Test.YthbodgnoadlbcaaGreatDoorK1
import Derived.Test.YthbodgnoadlbcaaGreatDoorPP
namespace Go.Proofs.YthbodgnoadlbcaaGreatDoor.Asl
set_option linter.unusedVariables false
set_option linter.unusedSimpArgs false
--CUT
def idxT (S : List Tm) (w : List UInt8) : Nat := S.findIdx fun u => decide (u.txt = w)
theorem idxT_hit {S : List Tm} {w : List UInt8} {k : Nat} (hk : k < S.length) (h : (S.getD k nilT).txt = w) (hb : ∀ j, j < k → (S.getD j nilT).txt ≠ w) : idxT S w = k := by
  unfold idxT
  rw [List.findIdx_eq hk]
  refine ⟨?_, fun j hj => ?_⟩
  · have : S.getD k nilT = S[k] := by simp [List.getD_eq_getElem?_getD, hk]
    rw [this] at h; simpa using h
  · have := hb j hj
    have e : S.getD j nilT = S[j] := by simp [List.getD_eq_getElem?_getD, show j < S.length by omega]
    rw [e] at this; simpa using this
theorem idxT_miss {S : List Tm} {w : List UInt8} (hb : ∀ j, j < S.length → (S.getD j nilT).txt ≠ w) : idxT S w = S.length := by
  unfold idxT
  rw [List.findIdx_eq_length]
  intro u hu
  obtain ⟨j, hj, rfl⟩ := List.getElem_of_mem hu
  have := hb j hj
  have e : S.getD j nilT = S[j] := by simp [List.getD_eq_getElem?_getD, hj]
  rw [e] at this; simpa using this
def look1 (x : List Tm × List Mv) (y : Stp) : Option (List Tm × List Mv) :=
  if idxT x.1 y.2.txt < x.1.length then some (x.1, x.2 ++ [(y.1, (idxT x.1 y.2.txt : Int))])
  else if x.1.length = 60 ∨ 24 < y.2.cnt then none else some (x.1 ++ [y.2], x.2 ++ [(y.1, (x.1.length : Int))])
def lookL (S : List Tm) (L : List Stp) : Option (List Tm × List Mv) := L.foldlM look1 (S, [])
theorem lookL_take {S : List Tm} {L : List Stp} {k : Nat} (hk : k < L.length) : lookL S (L.take (k + 1)) = (lookL S (L.take k)).bind fun x => look1 x (L.getD k (0, nilT)) := by
  unfold lookL
  rw [List.take_add_one, List.foldlM_append]
  simp [List.getD_eq_getElem?_getD, hk, Option.bind_eq_bind]
theorem lookL_none {S : List Tm} {L : List Stp} {k : Nat} (h : lookL S (L.take k) = none) : lookL S L = none := by
  have e : L.take k ++ L.drop k = L := List.take_append_drop k L
  unfold lookL at h ⊢
  rw [← e, List.foldlM_append, h]; rfl
def grow1 (ds : List Tm) (x : List Tm × Gr) : Option (List Tm × Gr) := (lookL x.1 ((x.1.getD x.2.length nilT).steps ds)).map fun y => (y.1, x.2 ++ [tidyL y.2])
def growN (ds : List Tm) : Nat → List Tm × Gr → Option Gr
  | 0, x => some x.2
  | n + 1, x => if x.2.length < x.1.length then (grow1 ds x).bind (growN ds n) else some x.2
def graphL (ds : List Tm) (t : Tm) : Option Gr := growN ds 61 ([t], [])
noncomputable def graphO (ds : List Tm) (t : Tm) : Option Gr := if (defsOk ds && t.fits ds.length) = true then graphL ds t else none
structure StOk (ds S : List Tm) : Prop where
  ok : ∀ u ∈ S, u.shape = true ∧ u.callLt ds.length = true ∧ u.cnt ≤ 24
  le : S.length ≤ 60
theorem look1_ok {ds : List Tm} {c : Nat} {x x' : List Tm × List Mv} {y : Stp} (h : StOk ds x.1) (hy : okS ds.length c y) (e : look1 x y = some x') : StOk ds x'.1 ∧ x.1.length ≤ x'.1.length ∧ x'.2.length = x.2.length + 1 := by
  unfold look1 at e
  split at e
  · cases e; exact ⟨h, Nat.le_refl _, by simp⟩
  · split at e
    · cases e
    · rename_i hn
      cases e
      refine ⟨⟨fun u hu => ?_, by have := h.le; simp; omega⟩, by simp, by simp⟩
      rcases List.mem_append.mp hu with hu | hu
      · exact h.ok u hu
      · simp at hu; subst hu
        exact ⟨hy.2.1, hy.2.2.1, by omega⟩
theorem lookL_ok {ds : List Tm} {c : Nat} {S : List Tm} {L : List Stp} {x : List Tm × List Mv} (h : StOk ds S) (hL : ∀ y ∈ L, okS ds.length c y) (e : lookL S L = some x) : StOk ds x.1 ∧ S.length ≤ x.1.length ∧ x.2.length = L.length := by
  have key : ∀ (L : List Stp) (z x : List Tm × List Mv), StOk ds z.1 → (∀ y ∈ L, okS ds.length c y) → L.foldlM look1 z = some x → StOk ds x.1 ∧ z.1.length ≤ x.1.length ∧ x.2.length = z.2.length + L.length := by
    intro L
    induction L with
    | nil => intro z x hz _ e; simp at e; subst e; exact ⟨hz, Nat.le_refl _, by simp⟩
    | cons y L ih =>
      intro z x hz hy e
      rw [List.foldlM_cons] at e
      cases h1 : look1 z y with
      | none => rw [h1] at e; simp at e
      | some z' =>
        rw [h1] at e
        obtain ⟨a1, a2, a3⟩ := look1_ok hz (hy y (by simp)) h1
        obtain ⟨b1, b2, b3⟩ := ih z' x a1 (fun y hy' => hy y (by simp [hy'])) (by simpa using e)
        exact ⟨b1, by omega, by simp; omega⟩
  have := key L (S, []) x h hL e
  exact ⟨this.1, this.2.1, by simpa using this.2.2⟩
--END
end Go.Proofs.YthbodgnoadlbcaaGreatDoor.Asl
