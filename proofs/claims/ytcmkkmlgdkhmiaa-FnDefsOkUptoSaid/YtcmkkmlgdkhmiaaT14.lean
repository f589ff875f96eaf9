/- Terms marked. -/
import Derived.Test.YtcmkkmlgdkhmiaaT13
namespace Go.Proofs.Ytcmkkmlgdkhmiaa.Asl
open Go.RowKit
set_option linter.unusedVariables false
attribute [local irreducible] WP WL andThen inBlock noGoto atEnd ACall DA DL PO Hold actB inB nodeOk
set_option maxHeartbeats 4000000

mutual
def Tm.mark (k : Int) : Tm → Tm | .node _ _ ps => .node k (k + 1) (Tm.marks (k + 2) ps)
def Tm.marks (k : Int) : List Tm → List Tm | [] => [] | p :: ps => p.mark k :: Tm.marks (k + 2 * (p.cnt : Int)) ps
end
theorem Tm.marks_length : ∀ (ps : List Tm) (a : Int), (Tm.marks a ps).length = ps.length
  | [], a => by simp [Tm.marks]
  | p :: ps, a => by simp [Tm.marks, Tm.marks_length ps]
theorem Tm.marks_get : ∀ (ps : List Tm) (a : Int) (k : Nat) (p : Tm), ps[k]? = some p → (Tm.marks a ps)[k]? = some (p.mark (a + 2 * (Tm.cnts (ps.take k) : Int)))
  | [], a, k, p, h => by simp at h
  | q :: ps, a, 0, p, h => by simp at h; subst h; simp [Tm.marks, Tm.cnts]
  | q :: ps, a, k + 1, p, h => by
    have := Tm.marks_get ps (a + 2 * (q.cnt : Int)) k p (by simpa using h)
    simp only [Tm.marks, List.getElem?_cons_succ, List.take_succ_cons, Tm.cnts]
    rw [this]; congr 2; push_cast; omega

/-- A footprint that is no greater than it must be. -/
theorem RepD.own {σ : Store} {F : Nat → Prop} {s : AV} {ps : List Tm} (h : RepD σ F s ps) : RepD σ (fun i => F i ∧ ∃ l, Has σ i ⟨.own, 3, l, []⟩) s ps := by
  induction h with
  | nil => exact .nil
  | row ss Fs h1 h2 h3 h4 h5 h6 h7 h8 h9 ih =>
    exact .row ss (fun k i => Fs k i ∧ ∃ l, Has σ i ⟨.own, 3, l, []⟩) ⟨h1, _, h2⟩ h2 h3 h4 h5 (fun k hk i hi => ⟨⟨(h6 k hk i hi.1).1, hi.2⟩, (h6 k hk i hi.1).2⟩) (fun k k' i hk hk' a b => h7 k k' i hk hk' a.1 b.1) h8 ih
theorem RepD.one {σ : Store} {F : Nat → Prop} {s : AV} {ps : List Tm} (h : RepD σ F s ps) : One s := by cases h <;> exact ⟨rfl⟩
theorem RepD.bound {σ : Store} {F : Nat → Prop} {s : AV} {ps : List Tm} (h : RepD σ F s ps) : ps.length ≤ 4294967296 := by cases h <;> simp_all

theorem cut3 {l : List AV} {o : Nat} {a b c : AV} (h0 : l[o]? = some a) (h1 : l[o + 1]? = some b) (h2 : l[o + 2]? = some c) : cutL l o 3 = [a, b, c] := by
  unfold cutL
  apply List.ext_getElem?
  intro j
  rw [List.getElem?_take]
  match j with
  | 0 => simpa using h0
  | 1 => simpa using h1
  | 2 => simpa using h2
  | j + 3 => rw [if_neg (by omega)]; rfl
theorem splice2 {l : List AV} {k : Nat} {x y s p q : AV} (h : k * 3 + 3 ≤ l.length) (hs : cutL l (k * 3) 3 = [x, y, s]) :
    (splice (splice l (0 + k * 3 + 0) [p]) (0 + k * 3 + 1) [q]).length = l.length ∧ cutL (splice (splice l (0 + k * 3 + 0) [p]) (0 + k * 3 + 1) [q]) (k * 3) 3 = [p, q, s] ∧ cutL (splice (splice l (0 + k * 3 + 0) [p]) (0 + k * 3 + 1) [q]) (0 + k * 3 + 2) 1 = [s] ∧
    ∀ j, j ≠ k → cutL (splice (splice l (0 + k * 3 + 0) [p]) (0 + k * 3 + 1) [q]) (j * 3) 3 = cutL l (j * 3) 3 := by
  have e1 : (splice l (0 + k * 3 + 0) [p]).length = l.length := splice_length (by simp; omega)
  have e2 : (splice (splice l (0 + k * 3 + 0) [p]) (0 + k * 3 + 1) [q]).length = l.length := by rw [splice_length (by rw [List.length_singleton, e1]; omega), e1]
  have g2 : l[k * 3 + 2]? = some s := by
    have : (cutL l (k * 3) 3)[2]? = some s := by rw [hs]; rfl
    unfold cutL at this
    rw [List.getElem?_take, if_pos (by omega), List.getElem?_drop] at this
    exact this
  have hg : ∀ i, (splice (splice l (0 + k * 3 + 0) [p]) (0 + k * 3 + 1) [q])[i]? = if i = k * 3 then some p else if i = k * 3 + 1 then some q else l[i]? := by
    intro i
    rw [splice_get (by rw [List.length_singleton, e1]; omega), splice_get (by rw [List.length_singleton]; omega)]
    simp only [List.length_cons, List.length_nil]
    by_cases h1 : i = k * 3
    · subst h1
      rw [if_pos (by omega), if_neg (by omega), if_pos (by omega), if_pos rfl, show k * 3 - (0 + k * 3 + 0) = 0 by omega]; rfl
    · by_cases h2 : i = k * 3 + 1
      · subst h2
        rw [if_neg (by omega), if_pos (by omega), if_neg (by omega), if_pos rfl, show k * 3 + 1 - (0 + k * 3 + 1) = 0 by omega]; rfl
      · rw [if_neg h1, if_neg h2]
        by_cases h3 : i < 0 + k * 3 + 1
        · rw [if_pos h3, if_pos (by omega)]
        · rw [if_neg h3, if_neg (by omega), if_neg (by omega), if_neg (by omega)]
  refine ⟨e2, ?_, ?_, ?_⟩
  · refine cut3 ?_ ?_ ?_
    · rw [hg, if_pos rfl]
    · rw [hg, if_neg (by omega), if_pos rfl]
    · rw [hg, if_neg (by omega), if_neg (by omega)]; exact g2
  · unfold cutL
    apply List.ext_getElem?
    intro j
    rw [List.getElem?_take]
    match j with
    | 0 => rw [if_pos (by omega), List.getElem?_drop, hg, if_neg (by omega), if_neg (by omega), show 0 + k * 3 + 2 + 0 = k * 3 + 2 by omega]; simpa using g2
    | j + 1 => rw [if_neg (by omega)]; rfl
  · intro j hj
    unfold cutL
    apply List.ext_getElem?
    intro i
    simp only [List.getElem?_take, List.getElem?_drop]
    split
    · rw [hg, if_neg (by omega), if_neg (by omega)]
    · rfl
/-- What marking leaves: the marks, and all else as it was. -/
def RetMark (σ : Store) (F : Nat → Prop) (s : AV) (a : Int) (ps : List Tm) : AV → Store → Prop := fun r σ' => r = I (a + 2 * (Tm.cnts ps : Int)) ∧ RepD σ' F s (Tm.marks a ps) ∧ (∀ i, F i → ∃ l, Has σ' i ⟨.own, 3, l, []⟩) ∧ ∀ (j : Nat) (o : Ob), ¬ F j → σ[j]? = some o → σ'[j]? = some o

section
variable {base : Nat}
theorem c_markTermS_row {F : Nat → Prop} {id : Nat} {l₀ : List AV} {ps : List Tm} {ss : List AV} {Fs : Nat → Nat → Prop} (a : Int) (σ : Store) (hF : ∀ i, F i → ∃ l, Has σ i ⟨.own, 3, l, []⟩) (h1 : F id) (h2 : Has σ id ⟨.own, 3, l₀, []⟩) (h3 : l₀.length = ps.length * 3) (h4 : ps.length ≤ 4294967296) (h5 : ss.length = ps.length)
    (h6 : ∀ k, k < ps.length → ∀ i, Fs k i → F i ∧ i ≠ id) (h7 : ∀ k k' i, k < ps.length → k' < ps.length → Fs k i → Fs k' i → k = k')
    (h8 : ∀ (k : Nat) (t : Tm) (s : AV), ps[k]? = some t → ss[k]? = some s → cutL l₀ (k * 3) 3 = [I t.op, I t.n, s]) (h9 : ∀ (k : Nat) (t : Tm) (s : AV), ps[k]? = some t → ss[k]? = some s → RepD σ (Fs k) s t.ps)
    (ha : 0 ≤ a) (ha2 : a + 2 * (Tm.cnts ps : Int) ≤ 1000000000000)
    (ih : ∀ (k : Nat) (t : Tm) (s : AV), ps[k]? = some t → ss[k]? = some s → ∀ (b : Int) (σ' : Store), (∀ i, Fs k i → ∃ l, Has σ' i ⟨.own, 3, l, []⟩) → RepD σ' (Fs k) s t.ps → 0 ≤ b → b + 2 * (Tm.cnts t.ps : Int) ≤ 1000000000000 → ACall Try.prog base F_laws_markTermS [s, I b] σ' (Fs k) (RetMark σ' (Fs k) s b t.ps)) :
    ACall Try.prog base F_laws_markTermS [.sl id 0 ps.length, I a] σ F (RetMark σ F (.sl id 0 ps.length) a ps) := by
  refine acall2 fun_laws_markTermS rfl tmps_laws_markTermS rfl fun N B w₀ ρ₀ => ?_
  repeat' (first
    | refine wp_seqA ?_
    | refine wp_region_seq ?_
    | refine thru_seq_next ?_
    | refine wp_blockA ?_
    | refine wl_nil ?_
    | refine wl_pop rfl (po_assign rfl) ?_
    | fail)
  refine wc_loop [(0, .sl id 0 ps.length)] (fun k : Nat => [(1, I (a + 2 * (Tm.cnts (ps.take k) : Int))), (5, I k)]) (fun k σ' => k ≤ ps.length ∧ (∃ l, Has σ' id ⟨.own, 3, l, []⟩ ∧ l.length = ps.length * 3 ∧
      ∀ (j : Nat) (t : Tm) (s : AV), ps[j]? = some t → ss[j]? = some s → cutL l (j * 3) 3 = (if j < k then [I (a + 2 * (Tm.cnts (ps.take j) : Int)), I (a + 2 * (Tm.cnts (ps.take j) : Int) + 1), s] else [I t.op, I t.n, s])) ∧
      (∀ (j : Nat) (t : Tm) (s : AV), ps[j]? = some t → ss[j]? = some s → RepD σ' (Fs j) s (if j < k then Tm.marks (a + 2 * (Tm.cnts (ps.take j) : Int) + 2) t.ps else t.ps)) ∧
      (∀ i, F i → ∃ l, Has σ' i ⟨.own, 3, l, []⟩) ∧ ∀ (j : Nat) (o : Ob), ¬ F j → σ[j]? = some o → σ'[j]? = some o)
    (fun k => ps.length - k) 0 ⟨Nat.zero_le _, ⟨l₀, h2, h3, fun j t s ht hs => by rw [if_neg (by omega)]; exact h8 j t s ht hs⟩, fun j t s ht hs => by rw [if_neg (by omega)]; exact h9 j t s ht hs, hF, fun _ _ _ h => h⟩ (sub_int rfl (by simp [Tm.cnts]) (sub_int rfl (by simp) (sub_cons rfl sub_nil))) ?_
  rintro k σ' ⟨hk, ⟨l, hl, hlen, hcells⟩, hkids, hFo, hkeep⟩
  have hcl := Tm.cnts_le (ps := ps) k
  repeat' (first
    | refine wp_seqA ?_
    | refine wp_region_seq ?_
    | refine thru_seq_next ?_
    | refine thru_seq ?_
    | refine exit_here ?_
    | refine wp_skipA ?_
    | refine wp_retA ?_
    | refine wp_exitA ?_
    | refine wp_blockA ?_
    | refine wl_nil ?_
    | refine wl_pop rfl (po_move rfl) ?_
    | refine wl_pop rfl (po_assign rfl) ?_
    | refine wl_pop rfl (po_binOp rfl rfl rfl) ?_
    | refine wl_pop rfl (pc_indexAddr rfl rfl inferInstance inferInstance (by omega)) ?_
    | refine wl_pop rfl (po_fieldAddr rfl inferInstance) ?_
    | refine wl_pop rfl (po_len (ri := 0) rfl Un.eq) ?_
    | refine wp_condP rfl (fun _ => ?_) (fun _ => ?_)
    | refine at_ret (res1 rfl rfl) ?_
    | fail)
  rotate_left
  · obtain rfl : k = ps.length := by omega
    rw [List.take_length]
    refine ⟨rfl, ?_, hFo, hkeep⟩
    have hm := Tm.marks_length ps a
    rw [← hm]
    refine RepD.row ss Fs h1 hl (by rw [hm]; exact hlen) (by rw [hm]; exact h4) (by rw [hm]; exact h5) (by rw [hm]; exact h6) (by rw [hm]; exact h7) ?_ ?_
    · intro j t s ht hs
      have hj : j < ps.length := by rw [← hm]; exact get_lt ht
      have e := Tm.marks_get ps a j ps[j] (List.getElem?_eq_getElem hj)
      rw [e] at ht; cases ht
      have := hcells j ps[j] s (List.getElem?_eq_getElem hj) hs
      rw [if_pos hj] at this
      rw [this]; cases hps : ps[j]; simp [Tm.mark, Tm.op, Tm.n]
    · intro j t s ht hs
      have hj : j < ps.length := by rw [← hm]; exact get_lt ht
      have e := Tm.marks_get ps a j ps[j] (List.getElem?_eq_getElem hj)
      rw [e] at ht; cases ht
      have := hkids j ps[j] s (List.getElem?_eq_getElem hj) hs
      rw [if_pos hj] at this
      cases hps : ps[j]
      rw [hps] at this
      simpa [Tm.mark, Tm.ps] using this
  have hk' : k < ps.length := by omega
  have hkt : ps[k]? = some ps[k] := List.getElem?_eq_getElem hk'
  obtain ⟨s, hs⟩ : ∃ s, ss[k]? = some s := ⟨ss[k]'(by omega), List.getElem?_eq_getElem (by omega)⟩
  have hct := Tm.cnts_take hk'
  have hcl1 := Tm.cnts_le (ps := ps) (k + 1)
  have hcnt : ps[k].cnt = 1 + Tm.cnts ps[k].ps := by cases ps[k]; simp [Tm.cnt, Tm.ps]
  repeat' (first
    | (refine wc_store1 rfl rfl inferInstance inferInstance inferInstance (by first | omega | (rw [splice_length (by simp only [List.length_cons, List.length_nil]; omega)]; omega)) (.inl h1) ?_; intro _ _)
    | refine wp_seqA ?_
    | refine wp_region_seq ?_
    | refine thru_seq_next ?_
    | refine wl_nil ?_
    | refine wl_pop rfl (po_move rfl) ?_
    | refine wl_pop rfl (po_assign rfl) ?_
    | refine wl_pop rfl (pc_add rfl rfl (by omega) (by omega)) ?_
    | refine wl_pop rfl (pc_indexAddr rfl rfl inferInstance inferInstance (by omega)) ?_
    | refine wl_pop rfl (po_fieldAddr rfl inferInstance) ?_
    | fail)
  rename_i σ2 u2 σ3 u3
  obtain ⟨q1, q2, q3, q4⟩ := splice2 (p := I (a + 2 * (Tm.cnts (ps.take k) : Int))) (q := I (a + 2 * (Tm.cnts (ps.take k) : Int) + 1)) (show k * 3 + 3 ≤ l.length by omega) (by
    have := hcells k _ s hkt hs
    rwa [if_neg (by omega)] at this)
  generalize hl2 : splice (splice l (0 + k * 3 + 0) [I (a + 2 * (Tm.cnts (ps.take k) : Int))]) (0 + k * 3 + 1) [I (a + 2 * (Tm.cnts (ps.take k) : Int) + 1)] = l2 at *
  have hl3 : Has σ3 id ⟨.own, 3, l2, []⟩ := inferInstance
  have hne : ∀ (i : Nat) (o : Ob), i ≠ id → σ'[i]? = some o → σ3[i]? = some o := fun i o hi ho => by
    rw [u3.eq, List.getElem?_set_ne (Ne.symm hi), u2.eq, List.getElem?_set_ne (Ne.symm hi)]; exact ho
  have hat : At σ3 id (0 + k * 3 + 2) 1 [s] := ⟨_, hl3.get, .inr rfl, by rw [cut_cutL]; exact q3, rfl⟩
  have hkid := hkids k _ s hkt hs
  rw [if_neg (by omega)] at hkid
  have hone := hkid.one
  have hown : ∀ i, Fs k i → ∃ l, Has σ3 i ⟨.own, 3, l, []⟩ := fun i hi => by
    obtain ⟨l', h⟩ := hFo i (h6 k hk' i hi).1
    exact ⟨l', ⟨hne i _ (h6 k hk' i hi).2 h.get⟩⟩
  have hrep3 : RepD σ3 (Fs k) s ps[k].ps := hkid.mono (fun i o hi ho => hne i o (h6 k hk' i hi).2 ho) (fun _ h => h)
  repeat' (first
    | refine wl_pop rfl (po_move rfl) ?_
    | refine wc_load1 rfl inferInstance inferInstance rfl ?_
    | fail)
  refine wl_call rfl inferInstance rfl (ih k _ s hkt hs _ σ3 hown hrep3 (by omega) (by omega)) (fun i hi => ⟨.inl (h6 k hk' i hi).1, by obtain ⟨l', h⟩ := hown i hi; exact ⟨_, h.get, .inl rfl⟩⟩) rfl ?_
  rintro _ σ4 ⟨rfl, hr4, ho4, hk4⟩
  repeat' (first
    | refine wp_region_seq ?_
    | refine thru_seq_next ?_
    | refine thru_block_next ?_
    | refine wl_nil ?_
    | refine wl_pop rfl (po_move rfl) ?_
    | refine wl_pop rfl (po_assign rfl) ?_
    | refine wl_pop rfl (pc_add rfl rfl (by omega) (by omega)) ?_
    | fail)
  refine ⟨k + 1, by omega, ⟨hk', ⟨l2, ⟨hk4 _ _ (fun hi => (h6 k hk' id hi).2 rfl) hl3.get⟩, by omega, ?_⟩, ?_, ?_, ?_⟩, sub_int rfl (by rw [hct, hcnt]; push_cast; omega) (sub_int rfl (by simp) (sub_cons rfl sub_nil))⟩
  · intro j t u ht hu
    by_cases e : j = k
    · subst e
      rw [hkt] at ht; cases ht
      rw [hs] at hu; cases hu
      rw [if_pos (by omega)]; exact q2
    · rw [q4 j e, hcells j t u ht hu]
      by_cases h : j < k
      · rw [if_pos h, if_pos (by omega)]
      · rw [if_neg h, if_neg (by omega)]
  · intro j t u ht hu
    by_cases e : j = k
    · subst e
      rw [hkt] at ht; cases ht
      rw [hs] at hu; cases hu
      rw [if_pos (by omega)]
      rw [show a + 2 * (Tm.cnts (ps.take j) : Int) + 2 = a + 2 * (Tm.cnts (ps.take j) : Int) + 1 + 1 by omega]
      exact hr4
    · have hj := hkids j t u ht hu
      have hjl := get_lt ht
      have hj4 : RepD σ4 (Fs j) u (if j < k then Tm.marks (a + 2 * (Tm.cnts (ps.take j) : Int) + 2) t.ps else t.ps) := hj.mono (fun i o hi ho => hk4 i o (fun hi2 => e (h7 j k i hjl hk' hi hi2)) (hne i o (h6 j hjl i hi).2 ho)) (fun _ h => h)
      by_cases h : j < k
      · rw [if_pos h] at hj4; rw [if_pos (by omega)]; exact hj4
      · rw [if_neg h] at hj4; rw [if_neg (by omega)]; exact hj4
  · intro i hi
    by_cases e : i = id
    · subst e; exact ⟨l2, ⟨hk4 _ _ (fun hi => (h6 k hk' _ hi).2 rfl) hl3.get⟩⟩
    by_cases h : Fs k i
    · exact ho4 i h
    · obtain ⟨l', hl'⟩ := hFo i hi
      exact ⟨l', ⟨hk4 i _ h (hne i _ e hl'.get)⟩⟩
  · intro j o hj ho
    have : j ≠ id := fun e => hj (e ▸ h1)
    exact hk4 j o (fun hi => hj (h6 k hk' j hi).1) (hne j o this (hkeep j o hj ho))

theorem c_markTermS_all (t : Tm) : ∀ (F : Nat → Prop) (s : AV) (a : Int) (σ : Store), (∀ i, F i → ∃ l, Has σ i ⟨.own, 3, l, []⟩) → RepD σ F s t.ps → 0 ≤ a → a + 2 * (Tm.cnts t.ps : Int) ≤ 1000000000000 → ACall Try.prog base F_laws_markTermS [s, I a] σ F (RetMark σ F s a t.ps) := by
  refine Tm.ind (P := fun t => ∀ (F : Nat → Prop) (s : AV) (a : Int) (σ : Store), (∀ i, F i → ∃ l, Has σ i ⟨.own, 3, l, []⟩) → RepD σ F s t.ps → 0 ≤ a → a + 2 * (Tm.cnts t.ps : Int) ≤ 1000000000000 → ACall Try.prog base F_laws_markTermS [s, I a] σ F (RetMark σ F s a t.ps)) ?_ t
  intro op n ps ih F s a σ hF hrep ha ha2
  simp only [Tm.ps] at hrep ha2 ⊢
  cases hrep with
  | nil =>
    refine acall2 fun_laws_markTermS rfl tmps_laws_markTermS rfl fun N B w₀ ρ₀ => ?_
    repeat' (first
      | refine wp_seqA ?_
      | refine wp_region_seq ?_
      | refine thru_seq_next ?_
      | refine wp_blockA ?_
      | refine wl_nil ?_
      | refine wl_pop rfl (po_assign rfl) ?_
      | fail)
    refine wc_loop [(0, _)] (fun _ : Unit => [(1, I a), (5, I 0)]) (fun _ σ' => σ' = σ) (fun _ => 0) () rfl (sub_cons rfl (sub_cons rfl (sub_cons rfl sub_nil))) ?_
    rintro _ σ' rfl
    repeat' (first
      | refine wl_pop rfl (po_len_lit rfl Un.eq) ?_
      | refine wp_seqA ?_
      | refine wp_region_seq ?_
      | refine thru_seq_next ?_
      | refine thru_seq ?_
      | refine exit_here ?_
      | refine wp_retA ?_
      | refine wp_exitA ?_
      | refine wl_nil ?_
      | refine wl_pop rfl (po_move rfl) ?_
      | refine wl_pop rfl (po_assign rfl) ?_
      | refine wl_pop rfl (po_binOp rfl rfl rfl) ?_
      | refine wp_condF rfl ?_
      | refine at_ret (res1 rfl rfl) ?_
      | fail)
    exact ⟨by simp [Tm.cnts], by simpa [Tm.marks] using RepD.nil, hF, fun _ _ _ h => h⟩
  | row ss Fs h1 h2 h3 h4 h5 h6 h7 h8 h9 =>
    exact c_markTermS_row a σ hF h1 h2 h3 h4 h5 h6 h7 h8 h9 ha ha2 fun k t s ht hs b σ' hF' hr' hb hb2 => ih t (List.mem_of_getElem? ht) (Fs k) s b σ' hF' hr' hb hb2
end
end Go.Proofs.Ytcmkkmlgdkhmiaa.Asl
