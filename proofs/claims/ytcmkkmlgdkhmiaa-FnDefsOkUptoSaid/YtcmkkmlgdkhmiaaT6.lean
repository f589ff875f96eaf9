/- Which terms fit, and which definitions are ok. -/
import Derived.Test.YtcmkkmlgdkhmiaaT5
namespace Go.Proofs.Ytcmkkmlgdkhmiaa.Asl
open Go.RowKit
set_option linter.unusedVariables false
attribute [local irreducible] WP WL andThen inBlock noGoto atEnd ACall DA PO Hold actB inB nodeOk
set_option maxHeartbeats 4000000

mutual
def Tm.callLt (m : Int) : Tm → Bool | .node op n ps => (decide (op ≠ 5) || decide (n < m)) && Tm.callLts m ps
def Tm.callLts (m : Int) : List Tm → Bool | [] => true | p :: ps => p.callLt m && Tm.callLts m ps
end
mutual
def Tm.bare : Tm → Bool | .node op _ ps => decide (op = 5) || (decide (op ≠ 1) && Tm.bares ps)
def Tm.bares : List Tm → Bool | [] => false | p :: ps => p.bare || Tm.bares ps
end
mutual
def Tm.maxc (u : Bool) : Tm → Int | .node op n ps => if op = 5 then n else if u && decide (op = 1) then -1 else Tm.maxcs u ps
def Tm.maxcs (u : Bool) : List Tm → Int | [] => -1 | p :: ps => max (p.maxc u) (Tm.maxcs u ps)
end
theorem Tm.callLts_eq (m : Int) (ps : List Tm) : Tm.callLts m ps = ps.all (Tm.callLt m) := by
  induction ps with
  | nil => rfl
  | cons p ps ih => simp [Tm.callLts, ih]
theorem Tm.bares_eq (ps : List Tm) : Tm.bares ps = ps.any Tm.bare := by
  induction ps with
  | nil => rfl
  | cons p ps ih => simp [Tm.bares, ih]
theorem Tm.maxcs_ge (u : Bool) (ps : List Tm) : -1 ≤ Tm.maxcs u ps := by
  induction ps with
  | nil => simp [Tm.maxcs]
  | cons p ps ih => simp only [Tm.maxcs]; omega
theorem Tm.maxcs_append (u : Bool) (a b : List Tm) : Tm.maxcs u (a ++ b) = max (Tm.maxcs u a) (Tm.maxcs u b) := by
  induction a with
  | nil => have := Tm.maxcs_ge u b; simp only [List.nil_append, Tm.maxcs]; omega
  | cons p a ih => simp only [List.cons_append, Tm.maxcs, ih]; omega
theorem Tm.maxcs_take (u : Bool) {ps : List Tm} {k : Nat} (h : k < ps.length) : Tm.maxcs u (ps.take (k + 1)) = max (Tm.maxcs u (ps.take k)) (ps[k].maxc u) := by
  rw [List.take_succ_eq_append_getElem h, Tm.maxcs_append]
  have := Tm.maxcs_ge u (ps.take k)
  simp only [Tm.maxcs]; omega
theorem Tm.maxcs_lt {u : Bool} {m : Int} (hm : 0 ≤ m) (ps : List Tm) : Tm.maxcs u ps < m ↔ ∀ p ∈ ps, p.maxc u < m := by
  induction ps with
  | nil => simp [Tm.maxcs]; omega
  | cons p ps ih => simp only [Tm.maxcs, List.mem_cons, forall_eq_or_imp, ← ih]; omega
theorem Tm.shape_node {op n : Int} {ps : List Tm} (h : (Tm.node op n ps).shape = true) : nodeOk op n ps.length = true ∧ ∀ p ∈ ps, p.shape = true := by
  simpa [Tm.shape, Tm.shapes_eq] using h
/-- The greatest call, and calls below a bound. -/
theorem Tm.maxc_callLt {m : Int} (hm : 0 ≤ m) (t : Tm) : t.shape = true → (t.maxc false < m ↔ t.callLt m = true) := by
  refine Tm.ind (P := fun t => t.shape = true → (t.maxc false < m ↔ t.callLt m = true)) ?_ t
  intro op n ps ih hs
  obtain ⟨hn, hps⟩ := Tm.shape_node hs
  rw [nodeOk_iff] at hn
  simp only [Tm.maxc, Tm.callLt, Tm.callLts_eq]
  by_cases h5 : op = 5
  · have : ps = [] := by
      have : ps.length = 0 := by omega
      simpa using this
    subst this
    simp [h5]
  · simp only [h5, if_false, Bool.false_and, Bool.false_eq_true]
    rw [Tm.maxcs_lt hm]
    have e : (decide (op ≠ 5) || decide (n < m)) = true := by simp [h5]
    rw [e, Bool.true_and, List.all_eq_true]
    exact ⟨fun h p hp => (ih p hp (hps p hp)).mp (h p hp), fun h p hp => (ih p hp (hps p hp)).mpr (h p hp)⟩
theorem Tm.maxc_bare (t : Tm) : t.shape = true → (0 ≤ t.maxc true ↔ t.bare = true) := by
  refine Tm.ind (P := fun t => t.shape = true → (0 ≤ t.maxc true ↔ t.bare = true)) ?_ t
  intro op n ps ih hs
  obtain ⟨hn, hps⟩ := Tm.shape_node hs
  rw [nodeOk_iff] at hn
  simp only [Tm.maxc, Tm.bare, Tm.bares_eq]
  by_cases h5 : op = 5
  · simp [h5]; omega
  by_cases h1 : op = 1
  · simp [h1]
  · simp only [h5, if_false, h1, decide_false, Bool.and_false, Bool.false_eq_true, ne_eq, not_false_eq_true, decide_true, Bool.false_or, Bool.true_and, List.any_eq_true]
    have := Tm.maxcs_lt (u := true) (m := 0) (by omega) ps
    constructor
    · intro h
      by_cases hc : ∃ p ∈ ps, p.bare = true
      · exact hc
      · have : Tm.maxcs true ps < 0 := this.mpr fun p hp => by
          have := mt (ih p hp (hps p hp)).mp (fun hb => hc ⟨p, hp, hb⟩)
          omega
        omega
    · rintro ⟨p, hp, hb⟩
      have h1 := (ih p hp (hps p hp)).mpr hb
      by_cases hc : Tm.maxcs true ps < 0
      · have := this.mp hc p hp; omega
      · omega
/-- A term that fits so many definitions. -/
def Tm.fits (m : Int) (t : Tm) : Bool := t.ok && inB m 0 3 && t.callLt m
def defsOk (ds : List Tm) : Bool := decide (ds.length ≤ 3) && ds.all fun t => t.fits ds.length && !t.bare

section
variable {base : Nat}
theorem c_callsBelow1 {p : Tm} {m : Int} (h : ∀ (σ : Store) (s : AV) [RTs σ s p.ps], ACall Try.prog base F_impl_callsBelow [.agg [I p.op, I p.n, s], I m] σ (fun _ => False) (Ret σ (Bo (p.callLt m)))) (σ : Store) (s : AV) (i : Nat) [hs : RTs σ s p.ps] [Has σ i ⟨.own, 1, [I m], []⟩] :
    ACall Try.prog base F_impl_callsBelow_1 [.agg [I p.op, I p.n, s], .pt i 0] σ (fun _ => False) (Ret σ (Bo (!p.callLt m))) := by
  have := hs.one
  refine acall2 fun_impl_callsBelow_1 rfl tmps_impl_callsBelow_1 rfl fun N B w₀ ρ₀ => ?_
  repeat' (first
    | (refine wc_callR rfl inferInstance rfl (h _ _) rfl ?_; intro _ _)
    | refine wp_seqA ?_
    | refine wp_region_seq ?_
    | refine thru_seq_next ?_
    | refine wp_retA ?_
    | refine wl_nil ?_
    | refine wl_pop rfl (po_assign rfl) ?_
    | refine wc_load1 rfl inferInstance (at_has (.inl rfl) rfl rfl) rfl ?_
    | refine wc_loadn rfl inferInstance (at_has (cs := [_, _, _]) (.inl rfl) rfl rfl) rfl ?_
    | refine wl_pop rfl (po_not rfl) ?_
    | (refine wc_boxA rfl inferInstance rfl ?_; intro _ _ _ _ _)
    | refine at_ret (res1 rfl rfl) ?_
    | exact ret_ inferInstance rfl
    | fail)
theorem c_anyBelow {ps : List Tm} {m : Int} (h : ∀ p ∈ ps, ∀ (σ : Store) (s : AV) [RTs σ s p.ps], ACall Try.prog base F_impl_callsBelow [.agg [I p.op, I p.n, s], I m] σ (fun _ => False) (Ret σ (Bo (p.callLt m)))) (σ : Store) (s : AV) (i : Nat) [RTs σ s ps] [hi : Has σ i ⟨.own, 1, [I m], []⟩] :
    ACall Try.prog base F_slices_ContainsFunc_impl_Term_impl_Term [s, .fn F_impl_callsBelow_1 [.pt i 0]] σ (fun _ => False) (Ret σ (Bo (ps.any fun p => !p.callLt m))) :=
  c_ContainsFunc (caps := [.pt i 0]) (fun σ => Has σ i ⟨.own, 1, [I m], []⟩) (fun _ _ _ h => instHasGrow) (fun p => !p.callLt m) (fun p hp σ s _ hj => c_callsBelow1 (h p hp) σ s i) σ s hi
theorem c_callsBelow_of {op n m : Int} {ps : List Tm} (h : ∀ p ∈ ps, ∀ (σ : Store) (s : AV) [RTs σ s p.ps], ACall Try.prog base F_impl_callsBelow [.agg [I p.op, I p.n, s], I m] σ (fun _ => False) (Ret σ (Bo (p.callLt m))))
    (σ : Store) (s : AV) [hs : RTs σ s ps] : ACall Try.prog base F_impl_callsBelow [.agg [I op, I n, s], I m] σ (fun _ => False) (Ret σ (Bo ((Tm.node op n ps).callLt m))) := by
  have := hs.one
  refine acall2 fun_impl_callsBelow rfl tmps_impl_callsBelow rfl fun N B w₀ ρ₀ => ?_
  repeat' (first
    | (refine wc_callR rfl inferInstance rfl (c_anyBelow h _ _ _) rfl ?_; intro _ _)
    | refine wp_seqA ?_
    | refine wp_region_seq ?_
    | refine thru_seq_next ?_
    | refine wp_retA ?_
    | refine wl_nil ?_
    | refine wl_pop rfl (po_move rfl) ?_
    | refine wl_pop rfl (po_assign rfl) ?_
    | refine wl_pop rfl (po_binOp rfl rfl rfl) ?_
    | refine wl_pop rfl (po_fieldAddr rfl inferInstance) ?_
    | refine wc_load1 rfl inferInstance (at_has (.inl rfl) rfl rfl) rfl ?_
    | refine wl_pop rfl (po_not rfl) ?_
    | refine wl_pop rfl (po_makeFunc rfl rfl) ?_
    | (refine wc_boxA rfl inferInstance rfl ?_; intro _ _ _ _ _)
    | (refine wc_box1 rfl inferInstance rfl ?_; intro _ _ _ _ _)
    | refine wl_pop rfl (po_pick rfl rfl) ?_
    | refine wc_guardT_true rfl rfl rfl ?_
    | refine wc_guardF_true rfl rfl rfl rfl ?_
    | refine wc_guardT_false rfl rfl rfl ?_
    | refine wc_guardF_false rfl rfl rfl rfl ?_
    | refine wc_guardP_true rfl rfl rfl rfl (fun _ => ?_) (fun _ => ?_)
    | refine wc_guardNP_false rfl rfl rfl rfl (fun _ => ?_) (fun _ => ?_)
    | refine at_ret (res1 rfl rfl) ?_
    | fail)
  all_goals refine ret_ inferInstance (congrArg Bo ?_)
  all_goals simp only [Tm.callLt, Tm.callLts_eq, List.all_eq_not_any_not]
  all_goals simp [*]
theorem c_callsBelow (m : Int) (t : Tm) : ∀ (σ : Store) (s : AV) [RTs σ s t.ps], ACall Try.prog base F_impl_callsBelow [.agg [I t.op, I t.n, s], I m] σ (fun _ => False) (Ret σ (Bo (t.callLt m))) :=
  Tm.ind (P := fun t => ∀ (σ : Store) (s : AV) [RTs σ s t.ps], ACall Try.prog base F_impl_callsBelow [.agg [I t.op, I t.n, s], I m] σ (fun _ => False) (Ret σ (Bo (t.callLt m))))
    (fun op n ps ih => c_callsBelow_of ih) t
theorem c_TermFits (m : Int) (t : Tm) (σ : Store) (s : AV) [hs : RTs σ s t.ps] : ACall Try.prog base F_impl_TermFits [.agg [I t.op, I t.n, s], I m] σ (fun _ => False) (Ret σ (Bo (t.fits m))) := by
  have := hs.one
  refine acall2 fun_impl_TermFits rfl tmps_impl_TermFits rfl fun N B w₀ ρ₀ => ?_
  repeat' (first
    | (refine wc_callR rfl inferInstance rfl (c_TermOk t _ _) rfl ?_; intro _ _)
    | (refine wc_callR rfl inferInstance rfl (c_callsBelow m t _ _) rfl ?_; intro _ _)
    | refine wp_seqA ?_
    | refine wp_region_seq ?_
    | refine thru_seq_next ?_
    | refine wp_retA ?_
    | refine wl_nil ?_
    | refine wl_pop rfl (po_move rfl) ?_
    | refine wl_pop rfl (po_assign rfl) ?_
    | refine wl_pop rfl (po_binOp rfl rfl rfl) ?_
    | refine wc_loadn rfl inferInstance (at_has (cs := [_, _, _]) (.inl rfl) rfl rfl) rfl ?_
    | (refine wc_boxA rfl inferInstance rfl ?_; intro _ _ _ _ _)
    | refine wl_pop rfl (po_pick rfl rfl) ?_
    | refine wc_guardT_true rfl rfl rfl ?_
    | refine wc_guardF_true rfl rfl rfl rfl ?_
    | refine wc_guardP_true rfl rfl rfl rfl (fun _ => ?_) (fun _ => ?_)
    | refine wc_guard rfl rfl rfl rfl (fun _ => ?_) (fun _ => ?_)
    | refine at_ret (res1 rfl rfl) ?_
    | fail)
  all_goals refine ret_ inferInstance (congrArg Bo (Bool.eq_iff_iff.mpr ?_))
  all_goals simp only [Tm.fits, Bool.and_eq_true, inB_iff]
  all_goals simp_all
  all_goals omega
theorem c_bare_of {op n : Int} {ps : List Tm} (h : ∀ p ∈ ps, ∀ (σ : Store) (s : AV) [RTs σ s p.ps], ACall Try.prog base F_impl_bare [.agg [I p.op, I p.n, s]] σ (fun _ => False) (Ret σ (Bo p.bare)))
    (σ : Store) (s : AV) [hs : RTs σ s ps] : ACall Try.prog base F_impl_bare [.agg [I op, I n, s]] σ (fun _ => False) (Ret σ (Bo (Tm.node op n ps).bare)) := by
  have := hs.one
  refine acall1 fun_impl_bare rfl tmps_impl_bare rfl fun N B w₀ ρ₀ => ?_
  repeat' (first
    | (refine wc_callR rfl inferInstance rfl (c_ContainsFunc (caps := []) (fun _ => True) (fun _ _ _ h => h) Tm.bare (fun p hp σ s _ _ => h p hp σ s) _ _ trivial) rfl ?_; intro _ _)
    | refine wp_seqA ?_
    | refine wp_region_seq ?_
    | refine thru_seq_next ?_
    | refine wp_retA ?_
    | refine wl_nil ?_
    | refine wl_pop rfl (po_move rfl) ?_
    | refine wl_pop rfl (po_assign rfl) ?_
    | refine wl_pop rfl (po_binOp rfl rfl rfl) ?_
    | refine wl_pop rfl (po_fieldAddr rfl inferInstance) ?_
    | refine wc_load1 rfl inferInstance (at_has (.inl rfl) rfl rfl) rfl ?_
    | (refine wc_boxA rfl inferInstance rfl ?_; intro _ _ _ _ _)
    | refine wl_pop rfl (po_pick rfl rfl) ?_
    | refine wc_guardU rfl rfl rfl rfl ?_
    | refine wc_guardT_true rfl rfl rfl ?_
    | refine wc_guardF_true rfl rfl rfl rfl ?_
    | refine wc_guardT_false rfl rfl rfl ?_
    | refine wc_guardF_false rfl rfl rfl rfl ?_
    | refine wc_guardNP_true rfl rfl rfl rfl (fun _ => ?_) (fun _ => ?_)
    | refine wc_guardP_false rfl rfl rfl rfl (fun _ => ?_) (fun _ => ?_)
    | refine at_ret (res1 rfl rfl) ?_
    | fail)
  all_goals refine ret_ inferInstance (congrArg Bo ?_)
  all_goals simp [Tm.bare, Tm.bares_eq, *]
theorem c_bare (t : Tm) : ∀ (σ : Store) (s : AV) [RTs σ s t.ps], ACall Try.prog base F_impl_bare [.agg [I t.op, I t.n, s]] σ (fun _ => False) (Ret σ (Bo t.bare)) :=
  Tm.ind (P := fun t => ∀ (σ : Store) (s : AV) [RTs σ s t.ps], ACall Try.prog base F_impl_bare [.agg [I t.op, I t.n, s]] σ (fun _ => False) (Ret σ (Bo t.bare)))
    (fun op n ps ih => c_bare_of ih) t
end
end Go.Proofs.Ytcmkkmlgdkhmiaa.Asl
