/- Several texts in one. -/
import Derived.Test.YthbodgnoadlbcaaDoorBB
import Derived.Test.YthbodgnoadlbcaaDoorTT
/- The free names of a term. -/
namespace Go.Proofs.YthbodgnoadlbcaaDoor.Asl
open Go.RowKit
set_option linter.unusedVariables false
attribute [local irreducible] WP WL andThen inBlock noGoto atEnd ACall DA DL PO Hold actB inB nodeOk
set_option maxHeartbeats 4000000

mutual
def Tm.fr (k : Nat) : Tm → Bool | .node op n ps => if op = 4 ∧ n = (k : Int) then false else Tm.frs k ps || decide (op = 1 ∧ n ≠ 0 ∧ max n (-n) - 1 = (k : Int))
def Tm.frs (k : Nat) : List Tm → Bool | [] => false | p :: ps => p.fr k || Tm.frs k ps
end
/-- An array of four truths. -/
def arr (m : Nat → Bool) : List AV := [Bo (m 0), Bo (m 1), Bo (m 2), Bo (m 3)]
theorem arr_ext {m m' : Nat → Bool} (h : ∀ k, k < 4 → m k = m' k) : arr m = arr m' := by
  simp [arr, h 0 (by omega), h 1 (by omega), h 2 (by omega), h 3 (by omega)]
abbrev Arr (m : Nat → Bool) : Ob := ⟨.own, 1, arr m, []⟩
theorem Has.arr {σ : Store} {j : Nat} {m m' : Nat → Bool} (h : Has σ j (Arr m)) (e : ∀ k, k < 4 → m k = m' k) : Has σ j (Arr m') := ⟨by have := h.get; rwa [show Arr m = Arr m' from by simp only [Arr, arr_ext e]] at this⟩
section
variable {base : Nat}
theorem c_nameOf (σ : Store) (a : Int) (h0 : -4 ≤ a) (h1 : a ≤ 4) (h2 : a ≠ 0) : ACall Tryd.prog base F_impl_nameOf [I a] σ (fun _ => False) (Ret σ (I ((max a (-a) - 1).toNat : Nat))) := by
  refine acall1 fun_impl_nameOf rfl tmps_impl_nameOf rfl fun N B w₀ ρ₀ => ?_
  repeat' (first
    | refine wl_pop rfl (pc_neg rfl (by omega) (by omega)) ?_
    | refine wp_seqA ?_
    | refine wp_region_seq ?_
    | refine thru_seq_next ?_
    | refine wp_retA ?_
    | refine wl_nil ?_
    | refine wl_pop rfl (po_move rfl) ?_
    | refine wl_pop rfl (po_assign rfl) ?_
    | refine wl_pop rfl (pc_sub rfl rfl (by omega) (by omega)) ?_
    | refine wl_pop rfl (pc_max rfl rfl) ?_
    | refine at_ret (res1 rfl rfl) ?_
    | fail)
  refine ret_ inferInstance (congrArg I ?_)
  omega
theorem c_l1Name (σ : Store) (a : Int) (h0 : -1000 ≤ a) (h1 : a ≤ 1000) : ACall Tryd.prog base F_spec_l1Name [I a] σ (fun _ => False) (Ret σ (I (max a (-a) - 1))) := by
  refine acall1 fun_spec_l1Name rfl tmps_spec_l1Name rfl fun N B w₀ ρ₀ => ?_
  repeat' (first
    | refine wl_pop rfl (pc_neg rfl (by omega) (by omega)) ?_
    | refine wp_seqA ?_
    | refine wp_region_seq ?_
    | refine thru_seq_next ?_
    | refine wp_retA ?_
    | refine wl_nil ?_
    | refine wl_pop rfl (po_move rfl) ?_
    | refine wl_pop rfl (po_assign rfl) ?_
    | refine wl_pop rfl (pc_sub rfl rfl (by omega) (by omega)) ?_
    | refine wl_pop rfl (pc_max rfl rfl) ?_
    | refine at_ret (res1 rfl rfl) ?_
    | exact ret_ inferInstance rfl
    | fail)

end
end Go.Proofs.YthbodgnoadlbcaaDoor.Asl

/- The free names of a term: the program's marks. -/
namespace Go.Proofs.YthbodgnoadlbcaaDoor.Asl
open Go.RowKit
set_option linter.unusedVariables false
attribute [local irreducible] WP WL andThen inBlock noGoto atEnd ACall DA DL PO Hold actB inB nodeOk
set_option maxHeartbeats 4000000

end Go.Proofs.YthbodgnoadlbcaaDoor.Asl

/- The names of a term: lists. -/
namespace Go.Proofs.YthbodgnoadlbcaaDoor.Asl
open Go.RowKit
set_option linter.unusedVariables false
attribute [local irreducible] WP WL andThen inBlock noGoto atEnd ACall DA DL PO Hold actB inB nodeOk
set_option maxHeartbeats 4000000

/-- A list of numbers in an object of its own. -/
abbrev Ints (xs : List Int) : Ob := ⟨.own, 1, xs.map I, []⟩
/-- A new list of numbers is answered. -/
def RetInts (σ : Store) (xs : List Int) : AV → Store → Prop := fun r σ' => ∃ i, r = .sl i 0 xs.length ∧ New σ i ∧ Has σ' i (Ints xs) ∧ Grow σ σ'
/-- The names below a bound that are free. -/
def Tm.namesTo (t : Tm) : Nat → List Int
  | 0 => []
  | k + 1 => t.namesTo k ++ if t.ok && t.fr k then [(k : Int)] else []
def Tm.names (t : Tm) : List Int := t.namesTo 4

end Go.Proofs.YthbodgnoadlbcaaDoor.Asl

/- Lists of numbers compared and marked; terms marked. -/
namespace Go.Proofs.YthbodgnoadlbcaaDoor.Asl
open Go.RowKit
set_option linter.unusedVariables false
attribute [local irreducible] WP WL andThen inBlock noGoto atEnd ACall DA DL PO Hold actB inB nodeOk
set_option maxHeartbeats 4000000

section
variable {base : Nat}
/-- Numbers that count on. -/
def countFrom (a : Int) : Nat → List Int
  | 0 => []
  | n + 1 => countFrom a n ++ [a + n]
end
end Go.Proofs.YthbodgnoadlbcaaDoor.Asl

/- Terms marked: what is new since two stores may turn. -/
namespace Go.Proofs.YthbodgnoadlbcaaDoor.Asl
open Go.RowKit
set_option linter.unusedVariables false
attribute [local irreducible] WP WL andThen inBlock noGoto atEnd ACall DA DL PO Hold actB inB nodeOk
set_option maxHeartbeats 4000000

instance instRTsMk {σ σa σb σ' : Store} {s : AV} {ts : List Tm} [m : Mk σ σa σb σ'] [a : LeS σa σ] [h : RTs σa s ts] : RTs σ' s ts :=
  ⟨h.rep.mono (fun j o _ ho => m.keep j o (.inl (Has.lt ⟨ho⟩)) (a.keep j o ho)) (fun _ _ => trivial)⟩
instance instRTsNMk {σc σ σa σb σ' : Store} {s : AV} {ts : List Tm} [m : Mk σ σa σb σ'] [a : LeS σb σc] [h : RTsN σc σ s ts] : RTsN σc σ' s ts :=
  ⟨h.rep.mono (fun j o hj ho => m.keep j o (.inr (Nat.le_trans a.len hj)) ho) (fun _ h => h)⟩

theorem RTs.les {σ σ' : Store} {s : AV} {ts : List Tm} (h : RTs σ s ts) (g : LeS σ σ') : RTs σ' s ts := ⟨h.rep.mono (fun i o _ => g.keep i o) (fun _ _ => trivial)⟩
end Go.Proofs.YthbodgnoadlbcaaDoor.Asl

/- Terms copied: every copy lies apart. -/
namespace Go.Proofs.YthbodgnoadlbcaaDoor.Asl
open Go.RowKit
set_option linter.unusedVariables false
attribute [local irreducible] WP WL andThen inBlock noGoto atEnd ACall DA DL PO Hold actB inB nodeOk
set_option maxHeartbeats 4000000

/-- A list of terms lies in objects of its own, each reached once; F tells which. -/
inductive RepD (σ : Store) : (Nat → Prop) → AV → List Tm → Prop
  | nil {F : Nat → Prop} {a : Option Addr} {c : Nat} : RepD σ F (.lit (.slice a 0 c)) []
  | row {F : Nat → Prop} {id : Nat} {l : List AV} {ps : List Tm} (ss : List AV) (Fs : Nat → Nat → Prop) : F id → Has σ id ⟨.own, 3, l, []⟩ → l.length = ps.length * 3 → ps.length ≤ 4294967296 → ss.length = ps.length →
      (∀ k, k < ps.length → ∀ i, Fs k i → F i ∧ i ≠ id) → (∀ k k' i, k < ps.length → k' < ps.length → Fs k i → Fs k' i → k = k') →
      (∀ (k : Nat) (t : Tm) (s : AV), ps[k]? = some t → ss[k]? = some s → cutL l (k * 3) 3 = [I t.op, I t.n, s]) → (∀ (k : Nat) (t : Tm) (s : AV), ps[k]? = some t → ss[k]? = some s → RepD σ (Fs k) s t.ps) → RepD σ F (.sl id 0 ps.length) ps
theorem get_lt {α : Type} {l : List α} {k : Nat} {x : α} (h : l[k]? = some x) : k < l.length := by
  rcases Nat.lt_or_ge k l.length with h1 | h1
  · exact h1
  · rw [List.getElem?_eq_none h1] at h; cases h
theorem RepD.mono {σ σ' : Store} {F : Nat → Prop} {s : AV} {ps : List Tm} (h : RepD σ F s ps) : ∀ {F' : Nat → Prop}, (∀ (i : Nat) (o : Ob), F i → σ[i]? = some o → σ'[i]? = some o) → (∀ i, F i → F' i) → RepD σ' F' s ps := by
  induction h with
  | nil => intro F' _ _; exact .nil
  | row ss Fs h1 h2 h3 h4 h5 h6 h7 h8 h9 ih =>
    intro F' hk hF
    refine .row ss Fs (hF _ h1) ⟨hk _ _ h1 h2.get⟩ h3 h4 h5 (fun k hk' i hi => ⟨hF _ (h6 k hk' i hi).1, (h6 k hk' i hi).2⟩) h7 h8 fun k t s ht hs => ?_
    exact ih k t s ht hs (fun i o hi ho => hk i o (h6 k (get_lt ht) i hi).1 ho) (fun _ h => h)
theorem RepD.rep {σ : Store} {F : Nat → Prop} {s : AV} {ps : List Tm} (h : RepD σ F s ps) : RepTs σ F s ps := by
  have key : ∀ {F : Nat → Prop} {s : AV} {ps : List Tm}, RepD σ F s ps → ∀ {G : Nat → Prop}, (∀ i, F i → G i) → RepTs σ G s ps := by
    intro F s ps h
    induction h with
    | nil => intro G _; exact .nil
    | row ss Fs h1 h2 h3 h4 h5 h6 h7 h8 h9 ih =>
      intro G hG
      refine .row ss (hG _ h1) h2.get (.inr rfl) rfl h4 h5 (fun k t s ht hs => by rw [cut_cutL, Nat.zero_add]; exact h8 k t s ht hs) fun k t s ht hs => ?_
      exact ih k t s ht hs (fun i hi => hG _ (h6 k (get_lt ht) i hi).1)
  exact key h (fun _ h => h)
theorem RepD.lt {σ : Store} {F : Nat → Prop} {s : AV} {ps : List Tm} (h : RepD σ F s ps) : RepD σ (fun i => F i ∧ i < σ.length) s ps := by
  induction h with
  | nil => exact .nil
  | row ss Fs h1 h2 h3 h4 h5 h6 h7 h8 h9 ih =>
    exact .row ss (fun k i => Fs k i ∧ i < σ.length) ⟨h1, h2.lt⟩ h2 h3 h4 h5 (fun k hk i hi => ⟨⟨(h6 k hk i hi.1).1, hi.2⟩, (h6 k hk i hi.1).2⟩) (fun k k' i hk hk' a b => h7 k k' i hk hk' a.1 b.1) h8 ih

/-- A list of terms in objects that are new since a store, each reached once. -/
class RTsD (σ₀ : outParam Store) (σ : Store) (s : AV) (ps : outParam (List Tm)) : Prop where
  rep : RepD σ (fun i => σ₀.length ≤ i) s ps
theorem RTsD.new {σ₀ σ : Store} {s : AV} {ps : List Tm} (h : RTsD σ₀ σ s ps) : RTsN σ₀ σ s ps := ⟨h.rep.rep⟩
instance instRTsDGrow {σ₀ σ σ' : Store} {s : AV} {ps : List Tm} [g : Grow σ σ'] [h : RTsD σ₀ σ s ps] : RTsD σ₀ σ' s ps := ⟨h.rep.mono (fun i o _ => g.keep i o) (fun _ h => h)⟩
instance instRTsDUpd {σ₀ σ σ' : Store} {i : Nat} {o o' : Ob} {s : AV} {ps : List Tm} [g : Upd σ i o' σ'] [k : Has σ₀ i o] [h : RTsD σ₀ σ s ps] : RTsD σ₀ σ' s ps :=
  ⟨h.rep.mono (fun j o hj ho => by have := k.lt; rw [g.eq, List.getElem?_set_ne (by omega)]; exact ho) (fun _ h => h)⟩
instance instRTsDMk {σc σ σa σb σ' : Store} {s : AV} {ts : List Tm} [m : Mk σ σa σb σ'] [a : LeS σb σc] [h : RTsD σc σ s ts] : RTsD σc σ' s ts :=
  ⟨h.rep.mono (fun j o hj ho => m.keep j o (.inr (Nat.le_trans a.len hj)) ho) (fun _ h => h)⟩
instance instRTsD {σ₀ σ : Store} {s : AV} {ps : List Tm} [h : RTsD σ₀ σ s ps] : RTsN σ₀ σ s ps := h.new
theorem RTsD.down {σ σ₁ σ' : Store} {ps : List Tm} {s : AV} (h : RTsD σ₁ σ' s ps) (k : σ.length ≤ σ₁.length) : RTsD σ σ' s ps := ⟨h.rep.mono (fun _ _ _ h => h) (fun _ hi => Nat.le_trans k hi)⟩

def RetTmD (σ : Store) (t : Tm) : AV → Store → Prop := fun r σ' => ∃ s, r = .agg [I t.op, I t.n, s] ∧ RTsD σ σ' s t.ps ∧ Grow σ σ'
def RetTmsD (σ : Store) (ps : List Tm) : AV → Store → Prop := fun r σ' => RTsD σ σ' r ps ∧ Grow σ σ'

end Go.Proofs.YthbodgnoadlbcaaDoor.Asl

/- Terms marked. -/
namespace Go.Proofs.YthbodgnoadlbcaaDoor.Asl
open Go.RowKit
set_option linter.unusedVariables false
attribute [local irreducible] WP WL andThen inBlock noGoto atEnd ACall DA DL PO Hold actB inB nodeOk
set_option maxHeartbeats 4000000

mutual
def Tm.mark (k : Int) : Tm → Tm | .node _ _ ps => .node k (k + 1) (Tm.marks (k + 2) ps)
def Tm.marks (k : Int) : List Tm → List Tm | [] => [] | p :: ps => p.mark k :: Tm.marks (k + 2 * (p.cnt : Int)) ps
end
theorem Tm.marks_length : ∀ (ps : List Tm) (a : Int), (Tm.marks a ps).length = ps.length
  | [], a => by simp [Tm.marks]
  | p :: ps, a => by simp [Tm.marks, Tm.marks_length ps]
theorem Tm.marks_get : ∀ (ps : List Tm) (a : Int) (k : Nat) (p : Tm), ps[k]? = some p → (Tm.marks a ps)[k]? = some (p.mark (a + 2 * (Tm.cnts (ps.take k) : Int)))
  | [], a, k, p, h => by simp at h
  | q :: ps, a, 0, p, h => by simp at h; subst h; simp [Tm.marks, Tm.cnts]
  | q :: ps, a, k + 1, p, h => by
    have := Tm.marks_get ps (a + 2 * (q.cnt : Int)) k p (by simpa using h)
    simp only [Tm.marks, List.getElem?_cons_succ, List.take_succ_cons, Tm.cnts]
    rw [this]; congr 2; push_cast; omega

/-- A footprint that is no greater than it must be. -/
theorem RepD.own {σ : Store} {F : Nat → Prop} {s : AV} {ps : List Tm} (h : RepD σ F s ps) : RepD σ (fun i => F i ∧ ∃ l, Has σ i ⟨.own, 3, l, []⟩) s ps := by
  induction h with
  | nil => exact .nil
  | row ss Fs h1 h2 h3 h4 h5 h6 h7 h8 h9 ih =>
    exact .row ss (fun k i => Fs k i ∧ ∃ l, Has σ i ⟨.own, 3, l, []⟩) ⟨h1, _, h2⟩ h2 h3 h4 h5 (fun k hk i hi => ⟨⟨(h6 k hk i hi.1).1, hi.2⟩, (h6 k hk i hi.1).2⟩) (fun k k' i hk hk' a b => h7 k k' i hk hk' a.1 b.1) h8 ih
theorem RepD.one {σ : Store} {F : Nat → Prop} {s : AV} {ps : List Tm} (h : RepD σ F s ps) : One s := by cases h <;> exact ⟨rfl⟩
theorem RepD.bound {σ : Store} {F : Nat → Prop} {s : AV} {ps : List Tm} (h : RepD σ F s ps) : ps.length ≤ 4294967296 := by cases h <;> simp_all

theorem cut3 {l : List AV} {o : Nat} {a b c : AV} (h0 : l[o]? = some a) (h1 : l[o + 1]? = some b) (h2 : l[o + 2]? = some c) : cutL l o 3 = [a, b, c] := by
  unfold cutL
  apply List.ext_getElem?
  intro j
  rw [List.getElem?_take]
  match j with
  | 0 => simpa using h0
  | 1 => simpa using h1
  | 2 => simpa using h2
  | j + 3 => rw [if_neg (by omega)]; rfl
theorem splice2 {l : List AV} {k : Nat} {x y s p q : AV} (h : k * 3 + 3 ≤ l.length) (hs : cutL l (k * 3) 3 = [x, y, s]) :
    (splice (splice l (0 + k * 3 + 0) [p]) (0 + k * 3 + 1) [q]).length = l.length ∧ cutL (splice (splice l (0 + k * 3 + 0) [p]) (0 + k * 3 + 1) [q]) (k * 3) 3 = [p, q, s] ∧ cutL (splice (splice l (0 + k * 3 + 0) [p]) (0 + k * 3 + 1) [q]) (0 + k * 3 + 2) 1 = [s] ∧
    ∀ j, j ≠ k → cutL (splice (splice l (0 + k * 3 + 0) [p]) (0 + k * 3 + 1) [q]) (j * 3) 3 = cutL l (j * 3) 3 := by
  have e1 : (splice l (0 + k * 3 + 0) [p]).length = l.length := splice_length (by simp; omega)
  have e2 : (splice (splice l (0 + k * 3 + 0) [p]) (0 + k * 3 + 1) [q]).length = l.length := by rw [splice_length (by rw [List.length_singleton, e1]; omega), e1]
  have g2 : l[k * 3 + 2]? = some s := by
    have : (cutL l (k * 3) 3)[2]? = some s := by rw [hs]; rfl
    unfold cutL at this
    rw [List.getElem?_take, if_pos (by omega), List.getElem?_drop] at this
    exact this
  have hg : ∀ i, (splice (splice l (0 + k * 3 + 0) [p]) (0 + k * 3 + 1) [q])[i]? = if i = k * 3 then some p else if i = k * 3 + 1 then some q else l[i]? := by
    intro i
    rw [splice_get (by rw [List.length_singleton, e1]; omega), splice_get (by rw [List.length_singleton]; omega)]
    simp only [List.length_cons, List.length_nil]
    by_cases h1 : i = k * 3
    · subst h1
      rw [if_pos (by omega), if_neg (by omega), if_pos (by omega), if_pos rfl, show k * 3 - (0 + k * 3 + 0) = 0 by omega]; rfl
    · by_cases h2 : i = k * 3 + 1
      · subst h2
        rw [if_neg (by omega), if_pos (by omega), if_neg (by omega), if_pos rfl, show k * 3 + 1 - (0 + k * 3 + 1) = 0 by omega]; rfl
      · rw [if_neg h1, if_neg h2]
        by_cases h3 : i < 0 + k * 3 + 1
        · rw [if_pos h3, if_pos (by omega)]
        · rw [if_neg h3, if_neg (by omega), if_neg (by omega), if_neg (by omega)]
  refine ⟨e2, ?_, ?_, ?_⟩
  · refine cut3 ?_ ?_ ?_
    · rw [hg, if_pos rfl]
    · rw [hg, if_neg (by omega), if_pos rfl]
    · rw [hg, if_neg (by omega), if_neg (by omega)]; exact g2
  · unfold cutL
    apply List.ext_getElem?
    intro j
    rw [List.getElem?_take]
    match j with
    | 0 => rw [if_pos (by omega), List.getElem?_drop, hg, if_neg (by omega), if_neg (by omega), show 0 + k * 3 + 2 + 0 = k * 3 + 2 by omega]; simpa using g2
    | j + 1 => rw [if_neg (by omega)]; rfl
  · intro j hj
    unfold cutL
    apply List.ext_getElem?
    intro i
    simp only [List.getElem?_take, List.getElem?_drop]
    split
    · rw [hg, if_neg (by omega), if_neg (by omega)]
    · rfl
/-- What marking leaves: the marks, and all else as it was. -/
def RetMark (σ : Store) (F : Nat → Prop) (s : AV) (a : Int) (ps : List Tm) : AV → Store → Prop := fun r σ' => r = I (a + 2 * (Tm.cnts ps : Int)) ∧ RepD σ' F s (Tm.marks a ps) ∧ (∀ i, F i → ∃ l, Has σ' i ⟨.own, 3, l, []⟩) ∧ ∀ (j : Nat) (o : Ob), ¬ F j → σ[j]? = some o → σ'[j]? = some o

section
variable {base : Nat}
theorem c_markTermS_row {F : Nat → Prop} {id : Nat} {l₀ : List AV} {ps : List Tm} {ss : List AV} {Fs : Nat → Nat → Prop} (a : Int) (σ : Store) (hF : ∀ i, F i → ∃ l, Has σ i ⟨.own, 3, l, []⟩) (h1 : F id) (h2 : Has σ id ⟨.own, 3, l₀, []⟩) (h3 : l₀.length = ps.length * 3) (h4 : ps.length ≤ 4294967296) (h5 : ss.length = ps.length)
    (h6 : ∀ k, k < ps.length → ∀ i, Fs k i → F i ∧ i ≠ id) (h7 : ∀ k k' i, k < ps.length → k' < ps.length → Fs k i → Fs k' i → k = k')
    (h8 : ∀ (k : Nat) (t : Tm) (s : AV), ps[k]? = some t → ss[k]? = some s → cutL l₀ (k * 3) 3 = [I t.op, I t.n, s]) (h9 : ∀ (k : Nat) (t : Tm) (s : AV), ps[k]? = some t → ss[k]? = some s → RepD σ (Fs k) s t.ps)
    (ha : 0 ≤ a) (ha2 : a + 2 * (Tm.cnts ps : Int) ≤ 1000000000000)
    (ih : ∀ (k : Nat) (t : Tm) (s : AV), ps[k]? = some t → ss[k]? = some s → ∀ (b : Int) (σ' : Store), (∀ i, Fs k i → ∃ l, Has σ' i ⟨.own, 3, l, []⟩) → RepD σ' (Fs k) s t.ps → 0 ≤ b → b + 2 * (Tm.cnts t.ps : Int) ≤ 1000000000000 → ACall Tryd.prog base F_laws_markTermS [s, I b] σ' (Fs k) (RetMark σ' (Fs k) s b t.ps)) :
    ACall Tryd.prog base F_laws_markTermS [.sl id 0 ps.length, I a] σ F (RetMark σ F (.sl id 0 ps.length) a ps) := by
  refine acall2 fun_laws_markTermS rfl tmps_laws_markTermS rfl fun N B w₀ ρ₀ => ?_
  repeat' (first
    | refine wp_seqA ?_
    | refine wp_region_seq ?_
    | refine thru_seq_next ?_
    | refine wp_blockA ?_
    | refine wl_nil ?_
    | refine wl_pop rfl (po_assign rfl) ?_
    | fail)
  refine wc_loop [(0, .sl id 0 ps.length)] (fun k : Nat => [(1, I (a + 2 * (Tm.cnts (ps.take k) : Int))), (5, I k)]) (fun k σ' => k ≤ ps.length ∧ (∃ l, Has σ' id ⟨.own, 3, l, []⟩ ∧ l.length = ps.length * 3 ∧
      ∀ (j : Nat) (t : Tm) (s : AV), ps[j]? = some t → ss[j]? = some s → cutL l (j * 3) 3 = (if j < k then [I (a + 2 * (Tm.cnts (ps.take j) : Int)), I (a + 2 * (Tm.cnts (ps.take j) : Int) + 1), s] else [I t.op, I t.n, s])) ∧
      (∀ (j : Nat) (t : Tm) (s : AV), ps[j]? = some t → ss[j]? = some s → RepD σ' (Fs j) s (if j < k then Tm.marks (a + 2 * (Tm.cnts (ps.take j) : Int) + 2) t.ps else t.ps)) ∧
      (∀ i, F i → ∃ l, Has σ' i ⟨.own, 3, l, []⟩) ∧ ∀ (j : Nat) (o : Ob), ¬ F j → σ[j]? = some o → σ'[j]? = some o)
    (fun k => ps.length - k) 0 ⟨Nat.zero_le _, ⟨l₀, h2, h3, fun j t s ht hs => by rw [if_neg (by omega)]; exact h8 j t s ht hs⟩, fun j t s ht hs => by rw [if_neg (by omega)]; exact h9 j t s ht hs, hF, fun _ _ _ h => h⟩ (sub_int rfl (by simp [Tm.cnts]) (sub_int rfl (by simp) (sub_cons rfl sub_nil))) ?_
  rintro k σ' ⟨hk, ⟨l, hl, hlen, hcells⟩, hkids, hFo, hkeep⟩
  have hcl := Tm.cnts_le (ps := ps) k
  repeat' (first
    | refine wp_seqA ?_
    | refine wp_region_seq ?_
    | refine thru_seq_next ?_
    | refine thru_seq ?_
    | refine exit_here ?_
    | refine wp_skipA ?_
    | refine wp_retA ?_
    | refine wp_exitA ?_
    | refine wp_blockA ?_
    | refine wl_nil ?_
    | refine wl_pop rfl (po_move rfl) ?_
    | refine wl_pop rfl (po_assign rfl) ?_
    | refine wl_pop rfl (po_binOp rfl rfl rfl) ?_
    | refine wl_pop rfl (pc_indexAddr rfl rfl inferInstance inferInstance (by omega)) ?_
    | refine wl_pop rfl (po_fieldAddr rfl inferInstance) ?_
    | refine wl_pop rfl (po_len (ri := 0) rfl Un.eq) ?_
    | refine wp_condP rfl (fun _ => ?_) (fun _ => ?_)
    | refine at_ret (res1 rfl rfl) ?_
    | fail)
  rotate_left
  · obtain rfl : k = ps.length := by omega
    rw [List.take_length]
    refine ⟨rfl, ?_, hFo, hkeep⟩
    have hm := Tm.marks_length ps a
    rw [← hm]
    refine RepD.row ss Fs h1 hl (by rw [hm]; exact hlen) (by rw [hm]; exact h4) (by rw [hm]; exact h5) (by rw [hm]; exact h6) (by rw [hm]; exact h7) ?_ ?_
    · intro j t s ht hs
      have hj : j < ps.length := by rw [← hm]; exact get_lt ht
      have e := Tm.marks_get ps a j ps[j] (List.getElem?_eq_getElem hj)
      rw [e] at ht; cases ht
      have := hcells j ps[j] s (List.getElem?_eq_getElem hj) hs
      rw [if_pos hj] at this
      rw [this]; cases hps : ps[j]; simp [Tm.mark, Tm.op, Tm.n]
    · intro j t s ht hs
      have hj : j < ps.length := by rw [← hm]; exact get_lt ht
      have e := Tm.marks_get ps a j ps[j] (List.getElem?_eq_getElem hj)
      rw [e] at ht; cases ht
      have := hkids j ps[j] s (List.getElem?_eq_getElem hj) hs
      rw [if_pos hj] at this
      cases hps : ps[j]
      rw [hps] at this
      simpa [Tm.mark, Tm.ps] using this
  have hk' : k < ps.length := by omega
  have hkt : ps[k]? = some ps[k] := List.getElem?_eq_getElem hk'
  obtain ⟨s, hs⟩ : ∃ s, ss[k]? = some s := ⟨ss[k]'(by omega), List.getElem?_eq_getElem (by omega)⟩
  have hct := Tm.cnts_take hk'
  have hcl1 := Tm.cnts_le (ps := ps) (k + 1)
  have hcnt : ps[k].cnt = 1 + Tm.cnts ps[k].ps := by cases ps[k]; simp [Tm.cnt, Tm.ps]
  repeat' (first
    | (refine wc_store1 rfl rfl inferInstance inferInstance inferInstance (by first | omega | (rw [splice_length (by simp only [List.length_cons, List.length_nil]; omega)]; omega)) (.inl h1) ?_; intro _ _)
    | refine wp_seqA ?_
    | refine wp_region_seq ?_
    | refine thru_seq_next ?_
    | refine wl_nil ?_
    | refine wl_pop rfl (po_move rfl) ?_
    | refine wl_pop rfl (po_assign rfl) ?_
    | refine wl_pop rfl (pc_add rfl rfl (by omega) (by omega)) ?_
    | refine wl_pop rfl (pc_indexAddr rfl rfl inferInstance inferInstance (by omega)) ?_
    | refine wl_pop rfl (po_fieldAddr rfl inferInstance) ?_
    | fail)
  rename_i σ2 u2 σ3 u3
  obtain ⟨q1, q2, q3, q4⟩ := splice2 (p := I (a + 2 * (Tm.cnts (ps.take k) : Int))) (q := I (a + 2 * (Tm.cnts (ps.take k) : Int) + 1)) (show k * 3 + 3 ≤ l.length by omega) (by
    have := hcells k _ s hkt hs
    rwa [if_neg (by omega)] at this)
  generalize hl2 : splice (splice l (0 + k * 3 + 0) [I (a + 2 * (Tm.cnts (ps.take k) : Int))]) (0 + k * 3 + 1) [I (a + 2 * (Tm.cnts (ps.take k) : Int) + 1)] = l2 at *
  have hl3 : Has σ3 id ⟨.own, 3, l2, []⟩ := inferInstance
  have hne : ∀ (i : Nat) (o : Ob), i ≠ id → σ'[i]? = some o → σ3[i]? = some o := fun i o hi ho => by
    rw [u3.eq, List.getElem?_set_ne (Ne.symm hi), u2.eq, List.getElem?_set_ne (Ne.symm hi)]; exact ho
  have hat : At σ3 id (0 + k * 3 + 2) 1 [s] := ⟨_, hl3.get, .inr rfl, by rw [cut_cutL]; exact q3, rfl⟩
  have hkid := hkids k _ s hkt hs
  rw [if_neg (by omega)] at hkid
  have hone := hkid.one
  have hown : ∀ i, Fs k i → ∃ l, Has σ3 i ⟨.own, 3, l, []⟩ := fun i hi => by
    obtain ⟨l', h⟩ := hFo i (h6 k hk' i hi).1
    exact ⟨l', ⟨hne i _ (h6 k hk' i hi).2 h.get⟩⟩
  have hrep3 : RepD σ3 (Fs k) s ps[k].ps := hkid.mono (fun i o hi ho => hne i o (h6 k hk' i hi).2 ho) (fun _ h => h)
  repeat' (first
    | refine wl_pop rfl (po_move rfl) ?_
    | refine wc_load1 rfl inferInstance inferInstance rfl ?_
    | fail)
  refine wl_call rfl inferInstance rfl (ih k _ s hkt hs _ σ3 hown hrep3 (by omega) (by omega)) (fun i hi => ⟨.inl (h6 k hk' i hi).1, by obtain ⟨l', h⟩ := hown i hi; exact ⟨_, h.get, .inl rfl⟩⟩) rfl ?_
  rintro _ σ4 ⟨rfl, hr4, ho4, hk4⟩
  repeat' (first
    | refine wp_region_seq ?_
    | refine thru_seq_next ?_
    | refine thru_block_next ?_
    | refine wl_nil ?_
    | refine wl_pop rfl (po_move rfl) ?_
    | refine wl_pop rfl (po_assign rfl) ?_
    | refine wl_pop rfl (pc_add rfl rfl (by omega) (by omega)) ?_
    | fail)
  refine ⟨k + 1, by omega, ⟨hk', ⟨l2, ⟨hk4 _ _ (fun hi => (h6 k hk' id hi).2 rfl) hl3.get⟩, by omega, ?_⟩, ?_, ?_, ?_⟩, sub_int rfl (by rw [hct, hcnt]; push_cast; omega) (sub_int rfl (by simp) (sub_cons rfl sub_nil))⟩
  · intro j t u ht hu
    by_cases e : j = k
    · subst e
      rw [hkt] at ht; cases ht
      rw [hs] at hu; cases hu
      rw [if_pos (by omega)]; exact q2
    · rw [q4 j e, hcells j t u ht hu]
      by_cases h : j < k
      · rw [if_pos h, if_pos (by omega)]
      · rw [if_neg h, if_neg (by omega)]
  · intro j t u ht hu
    by_cases e : j = k
    · subst e
      rw [hkt] at ht; cases ht
      rw [hs] at hu; cases hu
      rw [if_pos (by omega)]
      rw [show a + 2 * (Tm.cnts (ps.take j) : Int) + 2 = a + 2 * (Tm.cnts (ps.take j) : Int) + 1 + 1 by omega]
      exact hr4
    · have hj := hkids j t u ht hu
      have hjl := get_lt ht
      have hj4 : RepD σ4 (Fs j) u (if j < k then Tm.marks (a + 2 * (Tm.cnts (ps.take j) : Int) + 2) t.ps else t.ps) := hj.mono (fun i o hi ho => hk4 i o (fun hi2 => e (h7 j k i hjl hk' hi hi2)) (hne i o (h6 j hjl i hi).2 ho)) (fun _ h => h)
      by_cases h : j < k
      · rw [if_pos h] at hj4; rw [if_pos (by omega)]; exact hj4
      · rw [if_neg h] at hj4; rw [if_neg (by omega)]; exact hj4
  · intro i hi
    by_cases e : i = id
    · subst e; exact ⟨l2, ⟨hk4 _ _ (fun hi => (h6 k hk' _ hi).2 rfl) hl3.get⟩⟩
    by_cases h : Fs k i
    · exact ho4 i h
    · obtain ⟨l', hl'⟩ := hFo i hi
      exact ⟨l', ⟨hk4 i _ h (hne i _ e hl'.get)⟩⟩
  · intro j o hj ho
    have : j ≠ id := fun e => hj (e ▸ h1)
    exact hk4 j o (fun hi => hj (h6 k hk' j hi).1) (hne j o this (hkeep j o hj ho))

theorem c_markTermS_all (t : Tm) : ∀ (F : Nat → Prop) (s : AV) (a : Int) (σ : Store), (∀ i, F i → ∃ l, Has σ i ⟨.own, 3, l, []⟩) → RepD σ F s t.ps → 0 ≤ a → a + 2 * (Tm.cnts t.ps : Int) ≤ 1000000000000 → ACall Tryd.prog base F_laws_markTermS [s, I a] σ F (RetMark σ F s a t.ps) := by
  refine Tm.ind (P := fun t => ∀ (F : Nat → Prop) (s : AV) (a : Int) (σ : Store), (∀ i, F i → ∃ l, Has σ i ⟨.own, 3, l, []⟩) → RepD σ F s t.ps → 0 ≤ a → a + 2 * (Tm.cnts t.ps : Int) ≤ 1000000000000 → ACall Tryd.prog base F_laws_markTermS [s, I a] σ F (RetMark σ F s a t.ps)) ?_ t
  intro op n ps ih F s a σ hF hrep ha ha2
  simp only [Tm.ps] at hrep ha2 ⊢
  cases hrep with
  | nil =>
    refine acall2 fun_laws_markTermS rfl tmps_laws_markTermS rfl fun N B w₀ ρ₀ => ?_
    repeat' (first
      | refine wp_seqA ?_
      | refine wp_region_seq ?_
      | refine thru_seq_next ?_
      | refine wp_blockA ?_
      | refine wl_nil ?_
      | refine wl_pop rfl (po_assign rfl) ?_
      | fail)
    refine wc_loop [(0, _)] (fun _ : Unit => [(1, I a), (5, I 0)]) (fun _ σ' => σ' = σ) (fun _ => 0) () rfl (sub_cons rfl (sub_cons rfl (sub_cons rfl sub_nil))) ?_
    rintro _ σ' rfl
    repeat' (first
      | refine wl_pop rfl (po_len_lit rfl Un.eq) ?_
      | refine wp_seqA ?_
      | refine wp_region_seq ?_
      | refine thru_seq_next ?_
      | refine thru_seq ?_
      | refine exit_here ?_
      | refine wp_retA ?_
      | refine wp_exitA ?_
      | refine wl_nil ?_
      | refine wl_pop rfl (po_move rfl) ?_
      | refine wl_pop rfl (po_assign rfl) ?_
      | refine wl_pop rfl (po_binOp rfl rfl rfl) ?_
      | refine wp_condF rfl ?_
      | refine at_ret (res1 rfl rfl) ?_
      | fail)
    exact ⟨by simp [Tm.cnts], by simpa [Tm.marks] using RepD.nil, hF, fun _ _ _ h => h⟩
  | row ss Fs h1 h2 h3 h4 h5 h6 h7 h8 h9 =>
    exact c_markTermS_row a σ hF h1 h2 h3 h4 h5 h6 h7 h8 h9 ha ha2 fun k t s ht hs b σ' hF' hr' hb hb2 => ih t (List.mem_of_getElem? ht) (Fs k) s b σ' hF' hr' hb hb2
end
end Go.Proofs.YthbodgnoadlbcaaDoor.Asl

/- A term marked. -/
namespace Go.Proofs.YthbodgnoadlbcaaDoor.Asl
open Go.RowKit
set_option linter.unusedVariables false
attribute [local irreducible] WP WL andThen inBlock noGoto atEnd ACall DA DL PO Hold actB inB nodeOk
set_option maxHeartbeats 4000000

section
variable {E : Env} {ops : Array Oper} {l : List Oper} {Q : Exit → Slots → Store → Prop} {S : Slots} {σ : Store} {d : Option Tmp} {ty : TypeId} {pos : String} {af : Array Edge} {x y : Operand}
theorem wc_callMk {args : Array Operand} {ats : Array TypeId} {f : FuncId} {rs caps : List AV} {F : Nat → Prop} {s : AV} {a : Int} {ps : List Tm} (σa σb : Store) (hf : S.ev x = some (.fn f caps)) (hc : Callable E.P f) (hargs : evs S args.toList = some rs)
    (h : ACall E.P E.base f (rs ++ caps) σ F (RetMark σ F s a ps)) (hF : ∀ j, F j → σa.length ≤ j ∧ j < σb.length) (hown : ∀ i, F i → ∃ l, Has σ i ⟨.own, 3, l, []⟩) (hm : ∀ i, F i → E.may i) (hd : okd E d = true)
    (k : ∀ σ', Mk σ σa σb σ' → RepD σ' F s (Tm.marks a ps) → WL E ops l Q (S.put d (I (a + 2 * (Tm.cnts ps : Int)))) σ') :
    WL E ops (⟨d, .call ⟨.value x, args, ats⟩, ty, pos, af, none⟩ :: l) Q S σ :=
  wl_call hf hc hargs h (fun i hi => ⟨hm i hi, by obtain ⟨l', h⟩ := hown i hi; exact ⟨_, h.get, .inl rfl⟩⟩) hd fun r σ' hK => by
    obtain ⟨e, h1, h2, h3⟩ := hK
    subst e
    exact k σ' ⟨fun j o hj => h3 j o (fun hi => by have := hF j hi; omega)⟩ h1
end
section
variable {base : Nat}
theorem c_markTerm (t : Tm) (F : Nat → Prop) (s : AV) (a : Int) (σ : Store) (hF : ∀ i, F i → ∃ l, Has σ i ⟨.own, 3, l, []⟩) (hrep : RepD σ F s t.ps) (ha : 0 ≤ a) (ha2 : a + 2 * (Tm.cnts t.ps : Int) ≤ 1000000000000) :
    ACall Tryd.prog base F_laws_markTerm [.agg [I t.op, I t.n, s], I a] σ F (RetMark σ F s a t.ps) := by
  have := hrep.one
  refine acall2 fun_laws_markTerm rfl tmps_laws_markTerm rfl fun N B w₀ ρ₀ => ?_
  repeat' (first
    | refine wp_seqA ?_
    | refine wp_region_seq ?_
    | refine thru_seq_next ?_
    | refine wl_nil ?_
    | refine wl_pop rfl (po_move rfl) ?_
    | refine wl_pop rfl (po_assign rfl) ?_
    | refine wl_pop rfl (po_fieldAddr rfl inferInstance) ?_
    | refine wc_load1 rfl inferInstance (at_has (.inl rfl) rfl rfl) rfl ?_
    | (refine wc_boxA rfl inferInstance rfl ?_; intro _ _ _ _ _)
    | fail)
  rename_i i σ₁ g1 n1 h1
  have hF1 : ∀ i, F i → ∃ l, Has σ₁ i ⟨.own, 3, l, []⟩ := fun i hi => by obtain ⟨l, h⟩ := hF i hi; exact ⟨l, inferInstance⟩
  refine wl_call rfl inferInstance rfl (c_markTermS_all t F s a σ₁ hF1 (hrep.mono (fun i o _ ho => g1.keep i o ho) (fun _ h => h)) ha ha2) (fun i hi => ⟨.inl hi, by obtain ⟨l', h⟩ := hF1 i hi; exact ⟨_, h.get, .inl rfl⟩⟩) rfl ?_
  rintro _ σ2 ⟨rfl, h2, h3, h4⟩
  repeat' (first
    | refine wp_seqA ?_
    | refine wp_region_seq ?_
    | refine thru_seq_next ?_
    | refine wp_retA ?_
    | refine wl_nil ?_
    | refine wl_pop rfl (po_move rfl) ?_
    | refine wl_pop rfl (po_assign rfl) ?_
    | refine at_ret (res1 rfl rfl) ?_
    | fail)
  exact ⟨rfl, h2, h3, fun j o hj ho => h4 j o hj (g1.keep j o ho)⟩
theorem c_eqTerm_self (t : Tm) (σ : Store) (s s' : AV) [RTs σ s t.ps] [RTs σ s' t.ps] : ACall Tryd.prog base F_laws_eqTerm [.agg [I t.op, I t.n, s], .agg [I t.op, I t.n, s']] σ (fun _ => False) (Ret σ (Bo true)) := by
  have := c_eqTerm (base := base) t t σ s s'
  rwa [eqB_self] at this
end
end Go.Proofs.YthbodgnoadlbcaaDoor.Asl

/- Names exchanged: numbers. -/
namespace Go.Proofs.YthbodgnoadlbcaaDoor.Asl
open Go.RowKit
set_option linter.unusedVariables false
attribute [local irreducible] WP WL andThen inBlock noGoto atEnd ACall DA DL PO Hold actB inB nodeOk
set_option maxHeartbeats 4000000

def swN (k a b : Int) : Int := if k = a then b else if k = b then a else k
def swA (x a b : Int) : Int := if 0 < x then swN (x - 1) a b + 1 else if x < 0 then -(swN (-x - 1) a b) - 1 else x
end Go.Proofs.YthbodgnoadlbcaaDoor.Asl

/- Lists of terms that are made by append. -/
namespace Go.Proofs.YthbodgnoadlbcaaDoor.Asl
open Go.RowKit
set_option linter.unusedVariables false
attribute [local irreducible] WP WL andThen inBlock noGoto atEnd ACall DA DL PO Hold actB inB nodeOk
set_option maxHeartbeats 4000000

theorem cutL_append_lt {l m : List AV} {o n : Nat} (h : o + n ≤ l.length) : cutL (l ++ m) o n = cutL l o n := by
  unfold cutL
  apply List.ext_getElem?
  intro j
  simp only [List.getElem?_take, List.getElem?_drop]
  split
  · rw [List.getElem?_append_left (by omega)]
  · rfl
theorem cutL_append_eq {l m : List AV} {o n : Nat} (h : o = l.length) (hn : m.length = n) : cutL (l ++ m) o n = m := by
  subst h hn; unfold cutL; simp

/-- One term more, in a new row. -/
theorem RepD.snoc {σ σ' : Store} {F G : Nat → Prop} {id id' : Nat} {l : List AV} {xs : List Tm} {t : Tm} {u : AV} (h : RepD σ F (.sl id 0 xs.length) xs) (hl : Has σ id ⟨.own, 3, l, []⟩) (hu : RepD σ G u t.ps) (hFG : ∀ x, F x → G x → False)
    (hkeep : ∀ (x : Nat) (o : Ob), (F x ∨ G x) → x ≠ id → σ[x]? = some o → σ'[x]? = some o) (hid : ∀ x, F x ∨ G x → x ≠ id') (hnew : Has σ' id' ⟨.own, 3, l ++ [I t.op, I t.n, u], []⟩) (hlen : xs.length < 4294967296) :
    RepD σ' (fun x => F x ∨ G x ∨ x = id') (.sl id' 0 (xs ++ [t]).length) (xs ++ [t]) := by
  generalize hv : AV.sl id 0 xs.length = v at h
  cases h with
  | nil => cases hv
  | @row _ id0 l0 _ ss Fs h1 h2 h3 h4 h5 h6 h7 h8 h9 =>
    cases hv
    have el : l0 = l := by
      have := h2.get.symm.trans hl.get
      simpa using this
    subst el
    refine RepD.row (ss ++ [u]) (fun k x => if k < xs.length then Fs k x else G x) (.inr (.inr rfl)) hnew (by simp [h3]; omega) (by simp; omega) (by simp [h5]) ?_ ?_ ?_ ?_
    · intro k hk x hx
      by_cases e : k < xs.length
      · rw [if_pos e] at hx; exact ⟨.inl (h6 k e x hx).1, hid x (.inl (h6 k e x hx).1)⟩
      · rw [if_neg e] at hx; exact ⟨.inr (.inl hx), hid x (.inr hx)⟩
    · intro k k' x hk hk' hx hx'
      simp at hk hk'
      by_cases e : k < xs.length <;> by_cases e' : k' < xs.length
      · rw [if_pos e] at hx; rw [if_pos e'] at hx'; exact h7 k k' x e e' hx hx'
      · rw [if_pos e] at hx; rw [if_neg e'] at hx'; exact (hFG x (h6 k e x hx).1 hx').elim
      · rw [if_neg e] at hx; rw [if_pos e'] at hx'; exact (hFG x (h6 k' e' x hx').1 hx).elim
      · omega
    · intro k t' s' ht hs
      rw [List.getElem?_append] at ht hs
      by_cases e : k < xs.length
      · rw [if_pos e] at ht; rw [if_pos (by omega)] at hs
        rw [cutL_append_lt (by omega)]; exact h8 k t' s' ht hs
      · have : k = xs.length := by
          rw [if_neg e] at ht
          have := get_lt ht
          simp at this; omega
        subst this
        rw [if_neg e] at ht; rw [if_neg (by omega)] at hs
        simp at ht; rw [h5] at hs; simp at hs
        subst ht hs
        exact cutL_append_eq (by omega) rfl
    · intro k t' s' ht hs
      rw [List.getElem?_append] at ht hs
      by_cases e : k < xs.length
      · rw [if_pos e] at ht; rw [if_pos (by omega)] at hs
        simp only [if_pos e]
        exact (h9 k t' s' ht hs).mono (fun x o hx ho => hkeep x o (.inl (h6 k e x hx).1) (h6 k e x hx).2 ho) (fun _ h => h)
      · have : k = xs.length := by
          rw [if_neg e] at ht
          have := get_lt ht
          simp at this; omega
        subst this
        rw [if_neg e] at ht; rw [if_neg (by omega)] at hs
        simp at ht; rw [h5] at hs; simp at hs
        subst ht hs
        simp only [if_neg e]
        exact hu.mono (fun x o hx ho => hkeep x o (.inr hx) (fun e2 => hFG x (e2 ▸ h1) hx) ho) (fun _ h => h)
theorem RepD.single {σ σ' : Store} {G : Nat → Prop} {id' : Nat} {t : Tm} {u : AV} (hu : RepD σ G u t.ps) (hkeep : ∀ (x : Nat) (o : Ob), G x → σ[x]? = some o → σ'[x]? = some o) (hid : ∀ x, G x → x ≠ id') (hnew : Has σ' id' ⟨.own, 3, [I t.op, I t.n, u], []⟩) :
    RepD σ' (fun x => G x ∨ x = id') (.sl id' 0 1) [t] := by
  refine RepD.row (ps := [t]) [u] (fun _ x => G x) (.inr rfl) hnew rfl (by simp) rfl (fun k hk x hx => ⟨.inl hx, hid x hx⟩) (fun k k' x hk hk' _ _ => by simp at hk hk'; omega) ?_ ?_
  · intro k t' s' ht hs
    have := get_lt ht
    obtain rfl : k = 0 := by simpa using this
    simp at ht hs; subst ht hs; rfl
  · intro k t' s' ht hs
    have := get_lt ht
    obtain rfl : k = 0 := by simpa using this
    simp at ht hs; subst ht hs
    exact hu.mono hkeep (fun _ h => h)
end Go.Proofs.YthbodgnoadlbcaaDoor.Asl
