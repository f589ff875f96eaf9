/- Lists of terms that are made by append. -/
import Derived.Test.YtcmkkmlgdkhmiaaBB
import Derived.Test.YtcmkkmlgdkhmiaaT16
namespace Go.Proofs.Ytcmkkmlgdkhmiaa.Asl
open Go.RowKit
set_option linter.unusedVariables false
attribute [local irreducible] WP WL andThen inBlock noGoto atEnd ACall DA DL PO Hold actB inB nodeOk
set_option maxHeartbeats 4000000

theorem cutL_append_lt {l m : List AV} {o n : Nat} (h : o + n ≤ l.length) : cutL (l ++ m) o n = cutL l o n := by
  unfold cutL
  apply List.ext_getElem?
  intro j
  simp only [List.getElem?_take, List.getElem?_drop]
  split
  · rw [List.getElem?_append_left (by omega)]
  · rfl
theorem cutL_append_eq {l m : List AV} {o n : Nat} (h : o = l.length) (hn : m.length = n) : cutL (l ++ m) o n = m := by
  subst h hn; unfold cutL; simp

/-- One term more, in a new row. -/
theorem RepD.snoc {σ σ' : Store} {F G : Nat → Prop} {id id' : Nat} {l : List AV} {xs : List Tm} {t : Tm} {u : AV} (h : RepD σ F (.sl id 0 xs.length) xs) (hl : Has σ id ⟨.own, 3, l, []⟩) (hu : RepD σ G u t.ps) (hFG : ∀ x, F x → G x → False)
    (hkeep : ∀ (x : Nat) (o : Ob), (F x ∨ G x) → x ≠ id → σ[x]? = some o → σ'[x]? = some o) (hid : ∀ x, F x ∨ G x → x ≠ id') (hnew : Has σ' id' ⟨.own, 3, l ++ [I t.op, I t.n, u], []⟩) (hlen : xs.length < 4294967296) :
    RepD σ' (fun x => F x ∨ G x ∨ x = id') (.sl id' 0 (xs ++ [t]).length) (xs ++ [t]) := by
  generalize hv : AV.sl id 0 xs.length = v at h
  cases h with
  | nil => cases hv
  | @row _ id0 l0 _ ss Fs h1 h2 h3 h4 h5 h6 h7 h8 h9 =>
    cases hv
    have el : l0 = l := by
      have := h2.get.symm.trans hl.get
      simpa using this
    subst el
    refine RepD.row (ss ++ [u]) (fun k x => if k < xs.length then Fs k x else G x) (.inr (.inr rfl)) hnew (by simp [h3]; omega) (by simp; omega) (by simp [h5]) ?_ ?_ ?_ ?_
    · intro k hk x hx
      by_cases e : k < xs.length
      · rw [if_pos e] at hx; exact ⟨.inl (h6 k e x hx).1, hid x (.inl (h6 k e x hx).1)⟩
      · rw [if_neg e] at hx; exact ⟨.inr (.inl hx), hid x (.inr hx)⟩
    · intro k k' x hk hk' hx hx'
      simp at hk hk'
      by_cases e : k < xs.length <;> by_cases e' : k' < xs.length
      · rw [if_pos e] at hx; rw [if_pos e'] at hx'; exact h7 k k' x e e' hx hx'
      · rw [if_pos e] at hx; rw [if_neg e'] at hx'; exact (hFG x (h6 k e x hx).1 hx').elim
      · rw [if_neg e] at hx; rw [if_pos e'] at hx'; exact (hFG x (h6 k' e' x hx').1 hx).elim
      · omega
    · intro k t' s' ht hs
      rw [List.getElem?_append] at ht hs
      by_cases e : k < xs.length
      · rw [if_pos e] at ht; rw [if_pos (by omega)] at hs
        rw [cutL_append_lt (by omega)]; exact h8 k t' s' ht hs
      · have : k = xs.length := by
          rw [if_neg e] at ht
          have := get_lt ht
          simp at this; omega
        subst this
        rw [if_neg e] at ht; rw [if_neg (by omega)] at hs
        simp at ht; rw [h5] at hs; simp at hs
        subst ht hs
        exact cutL_append_eq (by omega) rfl
    · intro k t' s' ht hs
      rw [List.getElem?_append] at ht hs
      by_cases e : k < xs.length
      · rw [if_pos e] at ht; rw [if_pos (by omega)] at hs
        simp only [if_pos e]
        exact (h9 k t' s' ht hs).mono (fun x o hx ho => hkeep x o (.inl (h6 k e x hx).1) (h6 k e x hx).2 ho) (fun _ h => h)
      · have : k = xs.length := by
          rw [if_neg e] at ht
          have := get_lt ht
          simp at this; omega
        subst this
        rw [if_neg e] at ht; rw [if_neg (by omega)] at hs
        simp at ht; rw [h5] at hs; simp at hs
        subst ht hs
        simp only [if_neg e]
        exact hu.mono (fun x o hx ho => hkeep x o (.inr hx) (fun e2 => hFG x (e2 ▸ h1) hx) ho) (fun _ h => h)
theorem RepD.single {σ σ' : Store} {G : Nat → Prop} {id' : Nat} {t : Tm} {u : AV} (hu : RepD σ G u t.ps) (hkeep : ∀ (x : Nat) (o : Ob), G x → σ[x]? = some o → σ'[x]? = some o) (hid : ∀ x, G x → x ≠ id') (hnew : Has σ' id' ⟨.own, 3, [I t.op, I t.n, u], []⟩) :
    RepD σ' (fun x => G x ∨ x = id') (.sl id' 0 1) [t] := by
  refine RepD.row (ps := [t]) [u] (fun _ x => G x) (.inr rfl) hnew rfl (by simp) rfl (fun k hk x hx => ⟨.inl hx, hid x hx⟩) (fun k k' x hk hk' _ _ => by simp at hk hk'; omega) ?_ ?_
  · intro k t' s' ht hs
    have := get_lt ht
    obtain rfl : k = 0 := by simpa using this
    simp at ht hs; subst ht hs; rfl
  · intro k t' s' ht hs
    have := get_lt ht
    obtain rfl : k = 0 := by simpa using this
    simp at ht hs; subst ht hs
    exact hu.mono hkeep (fun _ h => h)
end Go.Proofs.Ytcmkkmlgdkhmiaa.Asl
