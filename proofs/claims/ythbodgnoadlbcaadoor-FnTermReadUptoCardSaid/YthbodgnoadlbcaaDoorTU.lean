/- Several texts in one. -/
import Derived.Test.YthbodgnoadlbcaaDoorBB
import Derived.Test.YthbodgnoadlbcaaDoorTT
/- The free names of a term. -/
namespace Go.Proofs.YthbodgnoadlbcaaDoor.Asl
open Go.RowKit
set_option linter.unusedVariables false
attribute [local irreducible] WP WL andThen inBlock noGoto atEnd ACall DA DL PO Hold actB inB nodeOk
set_option maxHeartbeats 4000000

mutual
def Tm.fr (k : Nat) : Tm → Bool | .node op n ps => if op = 4 ∧ n = (k : Int) then false else Tm.frs k ps || decide (op = 1 ∧ n ≠ 0 ∧ max n (-n) - 1 = (k : Int))
def Tm.frs (k : Nat) : List Tm → Bool | [] => false | p :: ps => p.fr k || Tm.frs k ps
end
/-- An array of four truths. -/
def arr (m : Nat → Bool) : List AV := [Bo (m 0), Bo (m 1), Bo (m 2), Bo (m 3)]
theorem arr_ext {m m' : Nat → Bool} (h : ∀ k, k < 4 → m k = m' k) : arr m = arr m' := by
  simp [arr, h 0 (by omega), h 1 (by omega), h 2 (by omega), h 3 (by omega)]
abbrev Arr (m : Nat → Bool) : Ob := ⟨.own, 1, arr m, []⟩
theorem Has.arr {σ : Store} {j : Nat} {m m' : Nat → Bool} (h : Has σ j (Arr m)) (e : ∀ k, k < 4 → m k = m' k) : Has σ j (Arr m') := ⟨by have := h.get; rwa [show Arr m = Arr m' from by simp only [Arr, arr_ext e]] at this⟩
section
variable {base : Nat}
theorem c_nameOf (σ : Store) (a : Int) (h0 : -4 ≤ a) (h1 : a ≤ 4) (h2 : a ≠ 0) : ACall Tryd.prog base F_impl_nameOf [I a] σ (fun _ => False) (Ret σ (I ((max a (-a) - 1).toNat : Nat))) := by
  refine acall1 fun_impl_nameOf rfl tmps_impl_nameOf rfl fun N B w₀ ρ₀ => ?_
  repeat' (first
    | refine wl_pop rfl (pc_neg rfl (by omega) (by omega)) ?_
    | refine wp_seqA ?_
    | refine wp_region_seq ?_
    | refine thru_seq_next ?_
    | refine wp_retA ?_
    | refine wl_nil ?_
    | refine wl_pop rfl (po_move rfl) ?_
    | refine wl_pop rfl (po_assign rfl) ?_
    | refine wl_pop rfl (pc_sub rfl rfl (by omega) (by omega)) ?_
    | refine wl_pop rfl (pc_max rfl rfl) ?_
    | refine at_ret (res1 rfl rfl) ?_
    | fail)
  refine ret_ inferInstance (congrArg I ?_)
  omega
theorem c_l1Name (σ : Store) (a : Int) (h0 : -1000 ≤ a) (h1 : a ≤ 1000) : ACall Tryd.prog base F_spec_l1Name [I a] σ (fun _ => False) (Ret σ (I (max a (-a) - 1))) := by
  refine acall1 fun_spec_l1Name rfl tmps_spec_l1Name rfl fun N B w₀ ρ₀ => ?_
  repeat' (first
    | refine wl_pop rfl (pc_neg rfl (by omega) (by omega)) ?_
    | refine wp_seqA ?_
    | refine wp_region_seq ?_
    | refine thru_seq_next ?_
    | refine wp_retA ?_
    | refine wl_nil ?_
    | refine wl_pop rfl (po_move rfl) ?_
    | refine wl_pop rfl (po_assign rfl) ?_
    | refine wl_pop rfl (pc_sub rfl rfl (by omega) (by omega)) ?_
    | refine wl_pop rfl (pc_max rfl rfl) ?_
    | refine at_ret (res1 rfl rfl) ?_
    | exact ret_ inferInstance rfl
    | fail)

end
end Go.Proofs.YthbodgnoadlbcaaDoor.Asl

/- The free names of a term: the program's marks. -/
namespace Go.Proofs.YthbodgnoadlbcaaDoor.Asl
open Go.RowKit
set_option linter.unusedVariables false
attribute [local irreducible] WP WL andThen inBlock noGoto atEnd ACall DA DL PO Hold actB inB nodeOk
set_option maxHeartbeats 4000000

end Go.Proofs.YthbodgnoadlbcaaDoor.Asl

/- The names of a term: lists. -/
namespace Go.Proofs.YthbodgnoadlbcaaDoor.Asl
open Go.RowKit
set_option linter.unusedVariables false
attribute [local irreducible] WP WL andThen inBlock noGoto atEnd ACall DA DL PO Hold actB inB nodeOk
set_option maxHeartbeats 4000000

/-- A list of numbers in an object of its own. -/
abbrev Ints (xs : List Int) : Ob := ⟨.own, 1, xs.map I, []⟩
/-- A new list of numbers is answered. -/
def RetInts (σ : Store) (xs : List Int) : AV → Store → Prop := fun r σ' => ∃ i, r = .sl i 0 xs.length ∧ New σ i ∧ Has σ' i (Ints xs) ∧ Grow σ σ'
/-- The names below a bound that are free. -/
def Tm.namesTo (t : Tm) : Nat → List Int
  | 0 => []
  | k + 1 => t.namesTo k ++ if t.ok && t.fr k then [(k : Int)] else []
def Tm.names (t : Tm) : List Int := t.namesTo 4

end Go.Proofs.YthbodgnoadlbcaaDoor.Asl

/- Lists of numbers compared and marked; terms marked. -/
namespace Go.Proofs.YthbodgnoadlbcaaDoor.Asl
open Go.RowKit
set_option linter.unusedVariables false
attribute [local irreducible] WP WL andThen inBlock noGoto atEnd ACall DA DL PO Hold actB inB nodeOk
set_option maxHeartbeats 4000000

section
variable {base : Nat}
/-- Numbers that count on. -/
def countFrom (a : Int) : Nat → List Int
  | 0 => []
  | n + 1 => countFrom a n ++ [a + n]
end
end Go.Proofs.YthbodgnoadlbcaaDoor.Asl

/- Terms marked: what is new since two stores may turn. -/
namespace Go.Proofs.YthbodgnoadlbcaaDoor.Asl
open Go.RowKit
set_option linter.unusedVariables false
attribute [local irreducible] WP WL andThen inBlock noGoto atEnd ACall DA DL PO Hold actB inB nodeOk
set_option maxHeartbeats 4000000

instance instRTsMk {σ σa σb σ' : Store} {s : AV} {ts : List Tm} [m : Mk σ σa σb σ'] [a : LeS σa σ] [h : RTs σa s ts] : RTs σ' s ts :=
  ⟨h.rep.mono (fun j o _ ho => m.keep j o (.inl (Has.lt ⟨ho⟩)) (a.keep j o ho)) (fun _ _ => trivial)⟩
instance instRTsNMk {σc σ σa σb σ' : Store} {s : AV} {ts : List Tm} [m : Mk σ σa σb σ'] [a : LeS σb σc] [h : RTsN σc σ s ts] : RTsN σc σ' s ts :=
  ⟨h.rep.mono (fun j o hj ho => m.keep j o (.inr (Nat.le_trans a.len hj)) ho) (fun _ h => h)⟩

theorem RTs.les {σ σ' : Store} {s : AV} {ts : List Tm} (h : RTs σ s ts) (g : LeS σ σ') : RTs σ' s ts := ⟨h.rep.mono (fun i o _ => g.keep i o) (fun _ _ => trivial)⟩
end Go.Proofs.YthbodgnoadlbcaaDoor.Asl

/- Terms copied: every copy lies apart. -/
namespace Go.Proofs.YthbodgnoadlbcaaDoor.Asl
open Go.RowKit
set_option linter.unusedVariables false
attribute [local irreducible] WP WL andThen inBlock noGoto atEnd ACall DA DL PO Hold actB inB nodeOk
set_option maxHeartbeats 4000000

/-- A list of terms lies in objects of its own, each reached once; F tells which. -/
inductive RepD (σ : Store) : (Nat → Prop) → AV → List Tm → Prop
  | nil {F : Nat → Prop} {a : Option Addr} {c : Nat} : RepD σ F (.lit (.slice a 0 c)) []
  | row {F : Nat → Prop} {id : Nat} {l : List AV} {ps : List Tm} (ss : List AV) (Fs : Nat → Nat → Prop) : F id → Has σ id ⟨.own, 3, l, []⟩ → l.length = ps.length * 3 → ps.length ≤ 4294967296 → ss.length = ps.length →
      (∀ k, k < ps.length → ∀ i, Fs k i → F i ∧ i ≠ id) → (∀ k k' i, k < ps.length → k' < ps.length → Fs k i → Fs k' i → k = k') →
      (∀ (k : Nat) (t : Tm) (s : AV), ps[k]? = some t → ss[k]? = some s → cutL l (k * 3) 3 = [I t.op, I t.n, s]) → (∀ (k : Nat) (t : Tm) (s : AV), ps[k]? = some t → ss[k]? = some s → RepD σ (Fs k) s t.ps) → RepD σ F (.sl id 0 ps.length) ps
theorem get_lt {α : Type} {l : List α} {k : Nat} {x : α} (h : l[k]? = some x) : k < l.length := by
  rcases Nat.lt_or_ge k l.length with h1 | h1
  · exact h1
  · rw [List.getElem?_eq_none h1] at h; cases h
theorem RepD.mono {σ σ' : Store} {F : Nat → Prop} {s : AV} {ps : List Tm} (h : RepD σ F s ps) : ∀ {F' : Nat → Prop}, (∀ (i : Nat) (o : Ob), F i → σ[i]? = some o → σ'[i]? = some o) → (∀ i, F i → F' i) → RepD σ' F' s ps := by
  induction h with
  | nil => intro F' _ _; exact .nil
  | row ss Fs h1 h2 h3 h4 h5 h6 h7 h8 h9 ih =>
    intro F' hk hF
    refine .row ss Fs (hF _ h1) ⟨hk _ _ h1 h2.get⟩ h3 h4 h5 (fun k hk' i hi => ⟨hF _ (h6 k hk' i hi).1, (h6 k hk' i hi).2⟩) h7 h8 fun k t s ht hs => ?_
    exact ih k t s ht hs (fun i o hi ho => hk i o (h6 k (get_lt ht) i hi).1 ho) (fun _ h => h)
theorem RepD.rep {σ : Store} {F : Nat → Prop} {s : AV} {ps : List Tm} (h : RepD σ F s ps) : RepTs σ F s ps := by
  have key : ∀ {F : Nat → Prop} {s : AV} {ps : List Tm}, RepD σ F s ps → ∀ {G : Nat → Prop}, (∀ i, F i → G i) → RepTs σ G s ps := by
    intro F s ps h
    induction h with
    | nil => intro G _; exact .nil
    | row ss Fs h1 h2 h3 h4 h5 h6 h7 h8 h9 ih =>
      intro G hG
      refine .row ss (hG _ h1) h2.get (.inr rfl) rfl h4 h5 (fun k t s ht hs => by rw [cut_cutL, Nat.zero_add]; exact h8 k t s ht hs) fun k t s ht hs => ?_
      exact ih k t s ht hs (fun i hi => hG _ (h6 k (get_lt ht) i hi).1)
  exact key h (fun _ h => h)
theorem RepD.lt {σ : Store} {F : Nat → Prop} {s : AV} {ps : List Tm} (h : RepD σ F s ps) : RepD σ (fun i => F i ∧ i < σ.length) s ps := by
  induction h with
  | nil => exact .nil
  | row ss Fs h1 h2 h3 h4 h5 h6 h7 h8 h9 ih =>
    exact .row ss (fun k i => Fs k i ∧ i < σ.length) ⟨h1, h2.lt⟩ h2 h3 h4 h5 (fun k hk i hi => ⟨⟨(h6 k hk i hi.1).1, hi.2⟩, (h6 k hk i hi.1).2⟩) (fun k k' i hk hk' a b => h7 k k' i hk hk' a.1 b.1) h8 ih

/-- A list of terms in objects that are new since a store, each reached once. -/
class RTsD (σ₀ : outParam Store) (σ : Store) (s : AV) (ps : outParam (List Tm)) : Prop where
  rep : RepD σ (fun i => σ₀.length ≤ i) s ps
theorem RTsD.new {σ₀ σ : Store} {s : AV} {ps : List Tm} (h : RTsD σ₀ σ s ps) : RTsN σ₀ σ s ps := ⟨h.rep.rep⟩
instance instRTsDGrow {σ₀ σ σ' : Store} {s : AV} {ps : List Tm} [g : Grow σ σ'] [h : RTsD σ₀ σ s ps] : RTsD σ₀ σ' s ps := ⟨h.rep.mono (fun i o _ => g.keep i o) (fun _ h => h)⟩
instance instRTsDUpd {σ₀ σ σ' : Store} {i : Nat} {o o' : Ob} {s : AV} {ps : List Tm} [g : Upd σ i o' σ'] [k : Has σ₀ i o] [h : RTsD σ₀ σ s ps] : RTsD σ₀ σ' s ps :=
  ⟨h.rep.mono (fun j o hj ho => by have := k.lt; rw [g.eq, List.getElem?_set_ne (by omega)]; exact ho) (fun _ h => h)⟩
instance instRTsDMk {σc σ σa σb σ' : Store} {s : AV} {ts : List Tm} [m : Mk σ σa σb σ'] [a : LeS σb σc] [h : RTsD σc σ s ts] : RTsD σc σ' s ts :=
  ⟨h.rep.mono (fun j o hj ho => m.keep j o (.inr (Nat.le_trans a.len hj)) ho) (fun _ h => h)⟩
instance instRTsD {σ₀ σ : Store} {s : AV} {ps : List Tm} [h : RTsD σ₀ σ s ps] : RTsN σ₀ σ s ps := h.new
theorem RTsD.down {σ σ₁ σ' : Store} {ps : List Tm} {s : AV} (h : RTsD σ₁ σ' s ps) (k : σ.length ≤ σ₁.length) : RTsD σ σ' s ps := ⟨h.rep.mono (fun _ _ _ h => h) (fun _ hi => Nat.le_trans k hi)⟩

def RetTmD (σ : Store) (t : Tm) : AV → Store → Prop := fun r σ' => ∃ s, r = .agg [I t.op, I t.n, s] ∧ RTsD σ σ' s t.ps ∧ Grow σ σ'
def RetTmsD (σ : Store) (ps : List Tm) : AV → Store → Prop := fun r σ' => RTsD σ σ' r ps ∧ Grow σ σ'

end Go.Proofs.YthbodgnoadlbcaaDoor.Asl

/- Terms marked. -/
namespace Go.Proofs.YthbodgnoadlbcaaDoor.Asl
open Go.RowKit
set_option linter.unusedVariables false
attribute [local irreducible] WP WL andThen inBlock noGoto atEnd ACall DA DL PO Hold actB inB nodeOk
set_option maxHeartbeats 4000000

mutual
def Tm.mark (k : Int) : Tm → Tm | .node _ _ ps => .node k (k + 1) (Tm.marks (k + 2) ps)
def Tm.marks (k : Int) : List Tm → List Tm | [] => [] | p :: ps => p.mark k :: Tm.marks (k + 2 * (p.cnt : Int)) ps
end
/-- A footprint that is no greater than it must be. -/
theorem RepD.own {σ : Store} {F : Nat → Prop} {s : AV} {ps : List Tm} (h : RepD σ F s ps) : RepD σ (fun i => F i ∧ ∃ l, Has σ i ⟨.own, 3, l, []⟩) s ps := by
  induction h with
  | nil => exact .nil
  | row ss Fs h1 h2 h3 h4 h5 h6 h7 h8 h9 ih =>
    exact .row ss (fun k i => Fs k i ∧ ∃ l, Has σ i ⟨.own, 3, l, []⟩) ⟨h1, _, h2⟩ h2 h3 h4 h5 (fun k hk i hi => ⟨⟨(h6 k hk i hi.1).1, hi.2⟩, (h6 k hk i hi.1).2⟩) (fun k k' i hk hk' a b => h7 k k' i hk hk' a.1 b.1) h8 ih
theorem RepD.one {σ : Store} {F : Nat → Prop} {s : AV} {ps : List Tm} (h : RepD σ F s ps) : One s := by cases h <;> exact ⟨rfl⟩
theorem RepD.bound {σ : Store} {F : Nat → Prop} {s : AV} {ps : List Tm} (h : RepD σ F s ps) : ps.length ≤ 4294967296 := by cases h <;> simp_all

/-- What marking leaves: the marks, and all else as it was. -/
def RetMark (σ : Store) (F : Nat → Prop) (s : AV) (a : Int) (ps : List Tm) : AV → Store → Prop := fun r σ' => r = I (a + 2 * (Tm.cnts ps : Int)) ∧ RepD σ' F s (Tm.marks a ps) ∧ (∀ i, F i → ∃ l, Has σ' i ⟨.own, 3, l, []⟩) ∧ ∀ (j : Nat) (o : Ob), ¬ F j → σ[j]? = some o → σ'[j]? = some o

end Go.Proofs.YthbodgnoadlbcaaDoor.Asl

/- A term marked. -/
namespace Go.Proofs.YthbodgnoadlbcaaDoor.Asl
open Go.RowKit
set_option linter.unusedVariables false
attribute [local irreducible] WP WL andThen inBlock noGoto atEnd ACall DA DL PO Hold actB inB nodeOk
set_option maxHeartbeats 4000000

end Go.Proofs.YthbodgnoadlbcaaDoor.Asl

/- Names exchanged: numbers. -/
namespace Go.Proofs.YthbodgnoadlbcaaDoor.Asl
open Go.RowKit
set_option linter.unusedVariables false
attribute [local irreducible] WP WL andThen inBlock noGoto atEnd ACall DA DL PO Hold actB inB nodeOk
set_option maxHeartbeats 4000000

def swN (k a b : Int) : Int := if k = a then b else if k = b then a else k
def swA (x a b : Int) : Int := if 0 < x then swN (x - 1) a b + 1 else if x < 0 then -(swN (-x - 1) a b) - 1 else x
end Go.Proofs.YthbodgnoadlbcaaDoor.Asl

/- Lists of terms that are made by append. -/
namespace Go.Proofs.YthbodgnoadlbcaaDoor.Asl
open Go.RowKit
set_option linter.unusedVariables false
attribute [local irreducible] WP WL andThen inBlock noGoto atEnd ACall DA DL PO Hold actB inB nodeOk
set_option maxHeartbeats 4000000

theorem cutL_append_lt {l m : List AV} {o n : Nat} (h : o + n ≤ l.length) : cutL (l ++ m) o n = cutL l o n := by
  unfold cutL
  apply List.ext_getElem?
  intro j
  simp only [List.getElem?_take, List.getElem?_drop]
  split
  · rw [List.getElem?_append_left (by omega)]
  · rfl
theorem cutL_append_eq {l m : List AV} {o n : Nat} (h : o = l.length) (hn : m.length = n) : cutL (l ++ m) o n = m := by
  subst h hn; unfold cutL; simp

/-- One term more, in a new row. -/
theorem RepD.snoc {σ σ' : Store} {F G : Nat → Prop} {id id' : Nat} {l : List AV} {xs : List Tm} {t : Tm} {u : AV} (h : RepD σ F (.sl id 0 xs.length) xs) (hl : Has σ id ⟨.own, 3, l, []⟩) (hu : RepD σ G u t.ps) (hFG : ∀ x, F x → G x → False)
    (hkeep : ∀ (x : Nat) (o : Ob), (F x ∨ G x) → x ≠ id → σ[x]? = some o → σ'[x]? = some o) (hid : ∀ x, F x ∨ G x → x ≠ id') (hnew : Has σ' id' ⟨.own, 3, l ++ [I t.op, I t.n, u], []⟩) (hlen : xs.length < 4294967296) :
    RepD σ' (fun x => F x ∨ G x ∨ x = id') (.sl id' 0 (xs ++ [t]).length) (xs ++ [t]) := by
  generalize hv : AV.sl id 0 xs.length = v at h
  cases h with
  | nil => cases hv
  | @row _ id0 l0 _ ss Fs h1 h2 h3 h4 h5 h6 h7 h8 h9 =>
    cases hv
    have el : l0 = l := by
      have := h2.get.symm.trans hl.get
      simpa using this
    subst el
    refine RepD.row (ss ++ [u]) (fun k x => if k < xs.length then Fs k x else G x) (.inr (.inr rfl)) hnew (by simp [h3]; omega) (by simp; omega) (by simp [h5]) ?_ ?_ ?_ ?_
    · intro k hk x hx
      by_cases e : k < xs.length
      · rw [if_pos e] at hx; exact ⟨.inl (h6 k e x hx).1, hid x (.inl (h6 k e x hx).1)⟩
      · rw [if_neg e] at hx; exact ⟨.inr (.inl hx), hid x (.inr hx)⟩
    · intro k k' x hk hk' hx hx'
      simp at hk hk'
      by_cases e : k < xs.length <;> by_cases e' : k' < xs.length
      · rw [if_pos e] at hx; rw [if_pos e'] at hx'; exact h7 k k' x e e' hx hx'
      · rw [if_pos e] at hx; rw [if_neg e'] at hx'; exact (hFG x (h6 k e x hx).1 hx').elim
      · rw [if_neg e] at hx; rw [if_pos e'] at hx'; exact (hFG x (h6 k' e' x hx').1 hx).elim
      · omega
    · intro k t' s' ht hs
      rw [List.getElem?_append] at ht hs
      by_cases e : k < xs.length
      · rw [if_pos e] at ht; rw [if_pos (by omega)] at hs
        rw [cutL_append_lt (by omega)]; exact h8 k t' s' ht hs
      · have : k = xs.length := by
          rw [if_neg e] at ht
          have := get_lt ht
          simp at this; omega
        subst this
        rw [if_neg e] at ht; rw [if_neg (by omega)] at hs
        simp at ht; rw [h5] at hs; simp at hs
        subst ht hs
        exact cutL_append_eq (by omega) rfl
    · intro k t' s' ht hs
      rw [List.getElem?_append] at ht hs
      by_cases e : k < xs.length
      · rw [if_pos e] at ht; rw [if_pos (by omega)] at hs
        simp only [if_pos e]
        exact (h9 k t' s' ht hs).mono (fun x o hx ho => hkeep x o (.inl (h6 k e x hx).1) (h6 k e x hx).2 ho) (fun _ h => h)
      · have : k = xs.length := by
          rw [if_neg e] at ht
          have := get_lt ht
          simp at this; omega
        subst this
        rw [if_neg e] at ht; rw [if_neg (by omega)] at hs
        simp at ht; rw [h5] at hs; simp at hs
        subst ht hs
        simp only [if_neg e]
        exact hu.mono (fun x o hx ho => hkeep x o (.inr hx) (fun e2 => hFG x (e2 ▸ h1) hx) ho) (fun _ h => h)
theorem RepD.single {σ σ' : Store} {G : Nat → Prop} {id' : Nat} {t : Tm} {u : AV} (hu : RepD σ G u t.ps) (hkeep : ∀ (x : Nat) (o : Ob), G x → σ[x]? = some o → σ'[x]? = some o) (hid : ∀ x, G x → x ≠ id') (hnew : Has σ' id' ⟨.own, 3, [I t.op, I t.n, u], []⟩) :
    RepD σ' (fun x => G x ∨ x = id') (.sl id' 0 1) [t] := by
  refine RepD.row (ps := [t]) [u] (fun _ x => G x) (.inr rfl) hnew rfl (by simp) rfl (fun k hk x hx => ⟨.inl hx, hid x hx⟩) (fun k k' x hk hk' _ _ => by simp at hk hk'; omega) ?_ ?_
  · intro k t' s' ht hs
    have := get_lt ht
    obtain rfl : k = 0 := by simpa using this
    simp at ht hs; subst ht hs; rfl
  · intro k t' s' ht hs
    have := get_lt ht
    obtain rfl : k = 0 := by simpa using this
    simp at ht hs; subst ht hs
    exact hu.mono hkeep (fun _ h => h)
end Go.Proofs.YthbodgnoadlbcaaDoor.Asl
