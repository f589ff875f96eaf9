/- Several texts in one. -/
import Derived.Test.YthbodgnoadlbcaaGreatDoorDD
import Derived.Test.YthbodgnoadlbcaaGreatDoorTT
import Derived.Test.YthbodgnoadlbcaaGreatDoorTU
import Derived.Test.YthbodgnoadlbcaaGreatDoorT27
/- Several texts in one. -/
/- Names exchanged in a term: the program. -/
namespace Go.Proofs.YthbodgnoadlbcaaGreatDoor.Asl
open Go.RowKit
set_option linter.unusedVariables false
attribute [local irreducible] WP WL andThen inBlock noGoto atEnd ACall DA DL PO Hold actB inB nodeOk
set_option maxHeartbeats 4000000

mutual
def Tm.sw (a b : Int) : Tm → Tm | .node op n ps => .node op (if op = 1 then swA n a b else if op = 4 then swN n a b else n) (Tm.sws a b ps)
def Tm.sws (a b : Int) : List Tm → List Tm | [] => [] | p :: ps => p.sw a b :: Tm.sws a b ps
end
end Go.Proofs.YthbodgnoadlbcaaGreatDoor.Asl

/- Several texts in one. -/
/- Names exchanged in a term: the table, as the judge says it. -/
namespace Go.Proofs.YthbodgnoadlbcaaGreatDoor.Asl
open Go.RowKit
set_option linter.unusedVariables false
attribute [local irreducible] WP WL andThen inBlock noGoto atEnd ACall DA DL PO Hold actB inB nodeOk
set_option maxHeartbeats 4000000

def tblSw (a b : Nat) : List Nat := ((List.range 4).set a b).set b a
end Go.Proofs.YthbodgnoadlbcaaGreatDoor.Asl

/- Names exchanged in a term: both programs, whole. -/
namespace Go.Proofs.YthbodgnoadlbcaaGreatDoor.Asl
open Go.RowKit
set_option linter.unusedVariables false
attribute [local irreducible] WP WL andThen inBlock noGoto atEnd ACall DA DL PO Hold actB inB nodeOk Tm.shape Tm.ok
set_option maxHeartbeats 4000000

def tmO (o : Option Tm) : Tm := o.getD (.node 0 0 [])
def RetTO (σ : Store) (o : Option Tm) : AV → Store → Prop := fun r σ' => ∃ s, r = .tup [.agg [I (tmO o).op, I (tmO o).n, s], Bo o.isSome] ∧ RTsD σ σ' s (tmO o).ps ∧ Grow σ σ'
def Tm.swO (t : Tm) (a b : Int) : Option Tm := if (t.ok && inB a 0 3 && inB b 0 3) = true then some (t.sw a b) else none
end Go.Proofs.YthbodgnoadlbcaaGreatDoor.Asl

/- Several texts in one. -/
/- Several texts in one. -/
/- A marked term read again. -/
namespace Go.Proofs.YthbodgnoadlbcaaGreatDoor.Asl
open Go.RowKit
set_option linter.unusedVariables false
attribute [local irreducible] WP WL andThen inBlock noGoto atEnd ACall DA DL PO Hold actB inB nodeOk Tm.shape Tm.ok
set_option maxHeartbeats 4000000

end Go.Proofs.YthbodgnoadlbcaaGreatDoor.Asl

/- What the drawn law FnTermSwap draws; terms alike. -/
namespace Go.Proofs.YthbodgnoadlbcaaGreatDoor.Asl
open Go.RowKit
set_option linter.unusedVariables false
set_option linter.unusedSimpArgs false
attribute [local irreducible] WP WL andThen inBlock noGoto atEnd ACall DA DL PO Hold Tm.ok
set_option maxHeartbeats 4000000
section
variable {base : Nat}
def RetTS (σ : Store) : AV → Store → Prop := fun r σ' => ∃ (t : Tm) (u : AV) (m1 m2 : Int), r = .tup [.agg [I t.op, I t.n, u], I m1, I m2] ∧ RTs σ' u t.ps ∧ -10 ≤ m1 ∧ m1 ≤ 10 ∧ -10 ≤ m2 ∧ m2 ≤ 10 ∧ Grow σ σ'
end
/-! Exchanged twice. -/
end Go.Proofs.YthbodgnoadlbcaaGreatDoor.Asl

/- Several texts in one. -/
/- Names exchanged: shape and number of names are kept. -/
namespace Go.Proofs.YthbodgnoadlbcaaGreatDoor.Asl
open Go.RowKit
set_option linter.unusedVariables false
set_option linter.unusedSimpArgs false
set_option maxHeartbeats 4000000
end Go.Proofs.YthbodgnoadlbcaaGreatDoor.Asl

/- Copies of terms; the steps handed out: each behind a copy. -/
namespace Go.Proofs.YthbodgnoadlbcaaGreatDoor.Asl
open Go.RowKit Go.Proofs.YthbodgnoadlbcaaGreatDoorW.PrintLast
set_option linter.unusedVariables false
set_option linter.unusedSimpArgs false
attribute [local irreducible] WP WL andThen inBlock noGoto atEnd ACall DA DL PO Hold nodeOk Tm.shape Tm.ok
set_option maxHeartbeats 4000000
set_option synthInstance.maxHeartbeats 400000
set_option synthInstance.maxSize 10000
/-! Steps whose terms lie apart. -/
structure SRDk (σ₀ σ : Store) (l : List StC) (L : List Stp) (k : Nat) : Prop where
  ex : ∃ Fs : Nat → Nat → Prop, (∀ j, j < k → ∀ i, Fs j i → σ₀.length ≤ i) ∧ (∀ j j' i, j < k → j' < k → Fs j i → Fs j' i → j = j') ∧
    ∀ (j : Nat) (x : StC) (y : Stp), j < k → l[j]? = some x → L[j]? = some y → x.act = y.1 ∧ x.op = y.2.op ∧ x.n = y.2.n ∧ RepD σ (Fs j) x.s y.2.ps
theorem SRDk.keep {σ₀ σ σ' : Store} {l : List StC} {L : List Stp} {k : Nat} (h : SRDk σ₀ σ l L k) (hk : ∀ (i : Nat) (o : Ob), σ₀.length ≤ i → σ[i]? = some o → σ'[i]? = some o) : SRDk σ₀ σ' l L k := by
  obtain ⟨Fs, h1, h2, h3⟩ := h.ex
  exact ⟨Fs, h1, h2, fun j x y hj hx hy => ⟨(h3 j x y hj hx hy).1, (h3 j x y hj hx hy).2.1, (h3 j x y hj hx hy).2.2.1, (h3 j x y hj hx hy).2.2.2.mono (fun i o hi ho => hk i o (h1 j hj i hi) ho) (fun _ h => h)⟩⟩
theorem SRDk.down {σ σ₁ σ' : Store} {l : List StC} {L : List Stp} {k : Nat} (h : SRDk σ₁ σ' l L k) (hl : σ.length ≤ σ₁.length) : SRDk σ σ' l L k := by
  obtain ⟨Fs, h1, h2, h3⟩ := h.ex
  exact ⟨Fs, fun j hj i hi => Nat.le_trans hl (h1 j hj i hi), h2, h3⟩
theorem SRDk.zero (σ₀ σ : Store) (l : List StC) (L : List Stp) : SRDk σ₀ σ l L 0 := ⟨fun _ _ => False, fun j hj => by omega, fun j j' i hj => by omega, fun j x y hj => by omega⟩
theorem SRDk.step {σ₀ σ σ₁ σ' : Store} {l : List StC} {L : List Stp} {k : Nat} {x : StC} {y : Stp} (h : SRDk σ₀ σ l L k) (hy : L[k]? = some y) (e1 : x.act = y.1) (e2 : x.op = y.2.op) (e3 : x.n = y.2.n) (hr : RTsD σ σ₁ x.s y.2.ps) (h0 : σ₀.length ≤ σ.length) (hk : ∀ (i : Nat) (o : Ob), σ₀.length ≤ i → σ[i]? = some o → σ'[i]? = some o) (hk2 : ∀ (i : Nat) (o : Ob), σ₀.length ≤ i → σ₁[i]? = some o → σ'[i]? = some o) :
    SRDk σ₀ σ' (l.set k x) L (k + 1) := by
  obtain ⟨Fs, h1, h2, h3⟩ := h.ex
  refine ⟨fun j i => if j = k then σ.length ≤ i else Fs j i ∧ i < σ.length, ?_, ?_, ?_⟩
  · intro j hj i hi
    by_cases e : j = k
    · rw [if_pos e] at hi; omega
    · rw [if_neg e] at hi; exact h1 j (by omega) i hi.1
  · intro j j' i hj hj' hi hi'
    by_cases e : j = k <;> by_cases e' : j' = k
    · omega
    · rw [if_pos e] at hi; rw [if_neg e'] at hi'; omega
    · rw [if_neg e] at hi; rw [if_pos e'] at hi'; omega
    · rw [if_neg e] at hi; rw [if_neg e'] at hi'; exact h2 j j' i (by omega) (by omega) hi.1 hi'.1
  · intro j x' y' hj hx hy'
    by_cases e : j = k
    · subst e
      rw [hy] at hy'; cases hy'
      rw [List.getElem?_set] at hx
      rw [if_pos rfl] at hx
      split at hx
      · cases hx
        simp only [if_true]
        exact ⟨e1, e2, e3, hr.rep.mono (fun i o hi ho => hk2 i o (Nat.le_trans h0 hi) ho) (fun _ h => h)⟩
      · cases hx
    · rw [List.getElem?_set_ne (Ne.symm e)] at hx
      obtain ⟨a1, a2, a3, a4⟩ := h3 j x' y' (by omega) hx hy'
      simp only [if_neg e]
      exact ⟨a1, a2, a3, a4.lt.mono (fun i o hi ho => hk i o (h1 j (by omega) i hi.1) ho) (fun _ h => h)⟩
class SRD (σ₀ : outParam Store) (σ : Store) (l : List StC) (L : outParam (List Stp)) : Prop where
  len : l.length = L.length
  rep : SRDk σ₀ σ l L L.length
theorem SRD.sr {σ₀ σ : Store} {l : List StC} {L : List Stp} (h : SRD σ₀ σ l L) : SR (fun _ => True) σ l L := by
  obtain ⟨Fs, h1, h2, h3⟩ := h.rep.ex
  have key : ∀ (l : List StC) (L : List Stp), l.length = L.length → (∀ (j : Nat) (x : StC) (y : Stp), l[j]? = some x → L[j]? = some y → x.act = y.1 ∧ x.op = y.2.op ∧ x.n = y.2.n ∧ RTsG (fun _ => True) σ x.s y.2.ps) → SRl (fun _ => True) σ l L := by
    intro l
    induction l with
    | nil => intro L hl _; obtain rfl : L = [] := List.length_eq_zero_iff.mp hl.symm; exact .nil
    | cons x l ih =>
      intro L hl hh
      cases L with
      | nil => simp at hl
      | cons y L =>
        obtain ⟨a1, a2, a3, a4⟩ := hh 0 x y rfl rfl
        exact .cons a1 a2 a3 a4 (ih L (by simpa using hl) fun j x y hx hy => hh (j + 1) x y (by simpa using hx) (by simpa using hy))
  exact ⟨key l L h.len fun j x y hx hy => by
    obtain ⟨a1, a2, a3, a4⟩ := h3 j x y (get_lt hy) hx hy
    exact ⟨a1, a2, a3, ⟨a4.rep.mono (fun _ _ _ h => h) (fun _ _ => trivial)⟩⟩⟩
instance instSRofSRD {σ₀ σ : Store} {l : List StC} {L : List Stp} [h : SRD σ₀ σ l L] : SR (fun _ => True) σ l L := h.sr
theorem SRD.keep {σ₀ σ σ' : Store} {l : List StC} {L : List Stp} (h : SRD σ₀ σ l L) (hk : ∀ (i : Nat) (o : Ob), σ₀.length ≤ i → σ[i]? = some o → σ'[i]? = some o) : SRD σ₀ σ' l L := ⟨h.len, h.rep.keep hk⟩
instance instSRDGrow {σ₀ σ σ' : Store} {l : List StC} {L : List Stp} [g : Grow σ σ'] [h : SRD σ₀ σ l L] : SRD σ₀ σ' l L := h.keep fun i o _ ho => g.keep i o ho
instance instSRDUpd {σ₀ σ σ' : Store} {i : Nat} {o o' : Ob} {l : List StC} {L : List Stp} [u : Upd σ i o' σ'] [k : Has σ₀ i o] [h : SRD σ₀ σ l L] : SRD σ₀ σ' l L :=
  h.keep fun j x hj ho => by have := k.lt; rw [u.eq, List.getElem?_set_ne (by omega)]; exact ho
def RetSO (σ : Store) (o : Option (List Stp)) : AV → Store → Prop := fun r σ' => ∃ u l, r = .tup [u, Bo o.isSome] ∧ OW σ σ' u l ∧ SRD σ σ' l (o.getD []) ∧ Grow σ σ'
def Tm.askO (ds : List Tm) (t : Tm) : Option (List Stp) := if (defsOk ds && t.fits ds.length) = true then some (t.steps ds) else none
theorem fits_get {t : Tm} {m : Int} (h : t.fits m = true) : t.shape = true ∧ t.callLt m = true ∧ t.cnt ≤ 24 := by
  unfold Tm.fits Tm.ok at h
  simp only [Bool.and_eq_true, decide_eq_true_eq] at h
  exact ⟨h.1.1.2, h.2, h.1.1.1⟩
section
variable {base : Nat}
theorem c_l3Asked (t : Tm) (ds : List Tm) (σ : Store) (s d : AV) [hs : RTs σ s t.ps] [hd : RTs σ d ds] : ACall Tryz.prog base F_spec_l3Asked [.agg [I t.op, I t.n, s], d] σ (fun _ => False) (Ret σ (Bo (defsOk ds && t.fits ds.length))) := by
  have := hs.one
  have := hd.one
  refine acall2 fun_spec_l3Asked rfl tmps_spec_l3Asked rfl fun N B w₀ ρ₀ => ?_
  repeat' (first
    | (refine wc_callR rfl inI rfl (c_sDefsOk ds _ _) rfl ?_; intro _ _)
    | (refine wc_callR rfl inI rfl (c_sTermFits _ t _ _) rfl ?_; intro _ _)
    | refine wp_seqA ?_
    | refine wp_region_seq ?_
    | refine thru_seq_next ?_
    | refine wp_retA ?_
    | refine wl_nil ?_
    | refine wl_pop rfl (po_move rfl) ?_
    | refine wl_pop rfl (po_assign rfl) ?_
    | refine wc_loadn rfl inI (at_has (cs := [_, _, _]) (.inl rfl) rfl rfl) rfl ?_
    | (refine wc_boxA rfl inI rfl ?_; intro _ _ _ _ _)
    | refine wl_pop rfl (po_pick rfl rfl) ?_
    | refine wc_guardT_true rfl rfl rfl ?_
    | refine wc_guardF_true rfl rfl rfl rfl ?_
    | refine wc_guard rfl rfl rfl rfl (fun _ => ?_) (fun _ => ?_)
    | refine wl_pop rfl (pc_lenT rfl inI inI) ?_
    | refine at_ret (res1 rfl rfl) ?_
    | fail)
  all_goals refine ret_ inI (congrArg Bo ?_)
  all_goals simp_all
end
end Go.Proofs.YthbodgnoadlbcaaGreatDoor.Asl
