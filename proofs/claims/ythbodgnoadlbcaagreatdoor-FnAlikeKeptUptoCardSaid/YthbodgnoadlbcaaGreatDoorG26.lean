/- Several texts in one. -/
import Derived.Test.YthbodgnoadlbcaaGreatDoorG4
import Derived.Test.YthbodgnoadlbcaaGreatDoorGG
import Derived.Test.YthbodgnoadlbcaaGreatDoorG25
import Derived.Test.YthbodgnoadlbcaaGreatDoorG13
/- Several texts in one. -/
/- The states to which one comes. -/
namespace Go.Proofs.YthbodgnoadlbcaaGreatDoor.Asl
open Go.RowKit Go.Proofs.YthbodgnoadlbcaaGreatDoorW.PrintLast
set_option linter.unusedVariables false
set_option linter.unusedSimpArgs false
attribute [local irreducible] WP WL andThen inBlock noGoto atEnd ACall DA DL PO Hold
set_option maxHeartbeats 4000000
set_option synthInstance.maxHeartbeats 400000
set_option synthInstance.maxSize 10000

def seenL (n : Nat) (out : List Nat) : List Bool := (List.range n).map fun x => decide (x ∈ out)
structure FI (σ : Store) (i n : Nat) (g : Gr) (a : Nat) (out : List Nat) (u : AV) (σ' : Store) : Prop where
  found : Found g a out
  le : LeS σ σ'
  ow : OW σ σ' u out
  seen : Has σ' i (Row (seenL n out))
  ne : ∀ m, u ≠ .sl i 0 m

end Go.Proofs.YthbodgnoadlbcaaGreatDoor.Asl

/- The states to which one comes, in order. -/
namespace Go.Proofs.YthbodgnoadlbcaaGreatDoor.Asl
open Go.RowKit Go.Proofs.YthbodgnoadlbcaaGreatDoorW.PrintLast
set_option linter.unusedVariables false
set_option linter.unusedSimpArgs false
attribute [local irreducible] WP WL andThen inBlock noGoto atEnd ACall DA DL PO Hold
set_option maxHeartbeats 4000000

def belowL (g : Gr) (s : Nat) : List Nat := (List.range s).filter fun x => decide (x ∈ fromL g 0)
theorem OW.lt {α : Type} [Enc α] {σ₀ σ : Store} {u : AV} {l : List α} (h : OW σ₀ σ u l) {j n : Nat} (e : u = .sl j 0 n) : j < σ.length := by
  rcases h.rep with ⟨_, h1⟩ | ⟨id, h1, h2, h3⟩
  · rw [e] at h1; cases h1
  · rw [e] at h1; cases h1; exact h3.lt
structure Two (σ σu : Store) {α β : Type} [Enc α] [Enc β] (v : AV) (out : List α) (u : AV) (F : List β) (σ' : Store) : Prop where
  le : LeS σ σ'
  ow : OW σ σ' v out
  two : OW σu σ' u F
  ne : ∀ j n m, v = .sl j 0 n → u ≠ .sl j 0 m
end Go.Proofs.YthbodgnoadlbcaaGreatDoor.Asl

/- Rounds, one behind the other: the reference. -/
namespace Go.Proofs.YthbodgnoadlbcaaGreatDoor.Asl
open Go.RowKit Go.Proofs.YthbodgnoadlbcaaGreatDoorW.PrintLast
set_option linter.unusedVariables false
set_option linter.unusedSimpArgs false
attribute [local irreducible] WP WL andThen inBlock noGoto atEnd ACall DA DL PO Hold
set_option maxHeartbeats 4000000
set_option synthInstance.maxHeartbeats 400000
set_option synthInstance.maxSize 10000
theorem rowCells_av (l : List AV) : rowCells l = l := by
  induction l with
  | nil => rfl
  | cons x l ih => rw [rowCells_cons, ih]; rfl
theorem rowCells_natL (l : List Nat) : rowCells l = l.map fun (n : Nat) => I ((n : Nat) : Int) := by
  induction l with
  | nil => rfl
  | cons x l ih => rw [rowCells_cons, ih]; rfl
theorem ow_ne_nat {σ₀ σ₁ σ₂ σ : Store} {s u : AV} {ss : List AV} {gs : List (List Nat)} {l : List Nat} (h : OW σ₀ σ s ss) (hr : ORs σ₁ σ ss gs) (hne : ss ≠ []) (k : OW σ₂ σ u l) : ∀ j n m, s = .sl j 0 n → u ≠ .sl j 0 m := by
  rintro j n m rfl rfl
  obtain ⟨_, _, h1⟩ := h.id_lt rfl
  obtain ⟨_, _, h2⟩ := k.id_lt rfl
  have e := h1.get.symm.trans h2.get
  simp only [Option.some.injEq, Ob.mk.injEq, true_and, and_true] at e
  have e := e.2
  rw [rowCells_av, rowCells_natL] at e
  cases ss with
  | nil => exact hne rfl
  | cons x xs =>
    cases l with
    | nil => cases e
    | cons y ys =>
      simp only [List.map_cons, List.cons.injEq] at e
      have h0 := hr.row 0
      rw [List.getD_cons_zero, e.1] at h0
      rcases h0.rep with ⟨_, q⟩ | ⟨i, q, _⟩
      · cases q
      · cases q
theorem rounds_push {σb σ5 σ1 σ2 : Store} {u u' v : AV} {us : List AV} {gs : List (List Nat)} {l : List Nat} (hne : us ≠ []) (hor : ORs σb σ5 us gs) (how : OW σb σ5 u us) (hlen : σb.length ≤ σ5.length) (hv : OW σ5 σ1 v l) (g1 : LeS σ5 σ1) (happ : App σb σ1 u u' σ2) :
    ORs σb σ2 (us ++ [v]) (gs ++ [l]) := by
  have := g1.grow
  have h1 : ORs σb σ1 us gs := inI
  have h2 : OW σb σ1 u us := inI
  have h3 := happ.ors h1 fun j n m e hm => by
    obtain ⟨k, hk, ek⟩ := List.getElem_of_mem hm
    exact ow_ne_nat h2 h1 hne (h1.row k) j n m e (by rw [getD_lt hk]; exact ek)
  have h4 := happ.ow hv (ow_ne_nat h2 h1 hne hv)
  exact hor.snoc h3 hlen h4
theorem ors_one {σb σ : Store} {v : AV} {l : List Nat} (h : OW σb σ v l) : ORs σb σ [v] [l] := by
  have := (ORs.nil σb σb : ORs σb σb [] ([] : List (List Nat))).snoc (ORs.nil σb σ) (Nat.le_refl _) h
  exact this
theorem last_getD {α : Type} {us : List α} {d : α} {n : Nat} (h : us.length = n + 1) : us.getD ((us.length : Int) - 1).toNat d = us.getD n d := by
  rw [show ((us.length : Int) - 1).toNat = n by omega]
section
variable {base : Nat}
theorem c_l4Rounds (σ : Store) (u : AV) {ss : List AV} {g : Gr} [hs : RW σ u ss] [hg : RRs σ ss g] (hok : GOk g) :
    ACall Tryz.prog base F_spec_l4Rounds [.agg [u]] σ (fun _ => False) (RetORs σ (roundsL g)) := by
  have hb := hs.bound
  have := hs.one
  have hl := hg.len
  have h60 := hok.most
  refine acall1 fun_spec_l4Rounds rfl tmps_spec_l4Rounds rfl fun N B w₀ ρ₀ => ?_
  repeat' (first
    | (refine wc_makeRow (α := Nat) rfl rfl inI inI rfl rfl (by decide) (by omega) (by omega) rfl ?_; intro _ _ _ _ _)
    | (refine wc_oneAV rfl inI inI rfl (by decide) rfl ?_; intro _ _ _ _ _)
    | refine wl_pop rfl (pc_lenRow rfl inI inI) ?_
    | refine wp_seqA ?_
    | refine wp_region_seq ?_
    | refine thru_seq_next ?_
    | refine wp_blockA ?_
    | refine wl_nil ?_
    | refine wl_pop rfl (po_assign rfl) ?_
    | refine wl_pop rfl (po_fieldAddr rfl inI) ?_
    | refine wc_load1 rfl inI (at_has (.inl rfl) rfl rfl) rfl ?_
    | (refine wc_boxA rfl inI rfl ?_; intro _ _ _ _ _)
    | fail)
  rename_i i1 σ1 g1 n1 h1 i2 σ2 g2 n2 h2 i3 σ3 g3 n3 h3
  rw [hl] at h2
  have hw2 : OW σ1 σ2 (.sl i2 0 ss.length) (List.replicate g.length 0) := ow_of_has (h2 : Has σ2 i2 (Row (List.replicate g.length (0 : Nat)))) n2.le (by simp [hl]) (by omega)
  refine wc_loop [(1, _)] (fun x : List (List Nat) × List Nat × Nat × AV => [(3, x.2.2.2)]) (fun x σ' => Canon x.2.1 ∧ x.2.1.length = g.length ∧ x.2.1.length ≤ x.2.2.1 + (reps x.2.1).length ∧ x.1.length + x.2.2.1 = g.length ∧ roundsL g = x.1 ++ rnds g x.2.2.1 x.2.1 ∧ LeS σ1 σ' ∧ ∃ us, OW σ1 σ' x.2.2.2 us ∧ ORs σ1 σ' us (x.1 ++ [x.2.1])) (fun x => x.2.2.1) ([], List.replicate g.length 0, g.length, .sl i3 0 1) ⟨Canon.zero _, by simp, by simp, by simp, rfl, inI, _, ow_of_has h3 (may_new σ1) rfl (by decide), ors_one inI⟩ (by repeat' (first | exact sub_nil | refine sub_cons rfl ?_ | refine sub_int rfl (by first | rfl | omega | (push_cast; omega) | simp) ?_ | refine sub_eq rfl (by assumption) ?_)) ?_
  rintro ⟨pre, c, f, v⟩ σ4 ⟨hcan, hcl, hcr, hpf, hrnd, hle, us, how, hor⟩
  dsimp only at hcan hcl hcr hpf hrnd how hor ⊢
  have := hle.grow
  have := how.one
  have hul : us.length = pre.length + 1 := by have := hor.len; simpa using this
  have hrow := hor.row pre.length
  have hlast : RW σ4 (us.getD ((us.length : Int) - 1).toNat nilS) c := by
    rw [last_getD hul]
    have h := hrow.rw
    rw [show (pre ++ [c]).getD pre.length [] = c from by simp [List.getD_eq_getElem?_getD]] at h
    exact h
  repeat' (first
    | refine wp_seqA ?_
    | refine wp_blockA ?_
    | fail)
  refine wc_drawn [] mixed_ rfl ?_
  all_goals refine da_takeC 0 rfl rfl (by kernel_rfl) (by first | exact pc_loadnL rfl inI (at_has (cs := [_]) (.inl rfl) rfl rfl) inI | fail) ?_
  all_goals refine da_takeC 1 rfl rfl (by kernel_rfl) (by first | exact po_move rfl | fail) ?_
  all_goals refine da_takeC 2 rfl rfl (by kernel_rfl) (by first | exact po_move rfl | fail) ?_
  all_goals refine da_takeC 3 rfl rfl (by kernel_rfl) (by first | exact pc_lenRow rfl inI inI | fail) ?_
  all_goals refine da_takeC 4 rfl rfl (by kernel_rfl) (by first | exact pc_sub rfl rfl (by omega) (by omega) | fail) ?_
  all_goals refine da_takeC 5 rfl rfl (by kernel_rfl) (by first | exact pc_indexRowZ rfl rfl inI inI how.rw (by omega) (by omega) | fail) ?_
  all_goals refine da_takeC 6 rfl rfl (by kernel_rfl) (by first | exact pc_ldAV rfl inI inI (by omega) inI | fail) ?_
  all_goals (first | (refine da_one 7 rfl (by kernel_rfl) (fun _ _ _ _ => ?_); (repeat' (first | (refine wc_callOW rfl inI rfl (c_l4Next _ _ _ hok hcl) rfl ?_; intro _ _ _ _ _) | fail)); all_goals (first | refine wl_nil ⟨rfl, (by first | exact LeS.len inI | exact App.len (by assumption)), ?_⟩ | trace_state)))
  all_goals refine da_takeC 8 rfl rfl (by kernel_rfl) (by first | exact po_assign rfl | fail) ?_
  all_goals refine da_done (by kernel_rfl) ?_
  rename_i N4 B4 w4 r4 nx σ5 onx wnx gnx
  have hgc : (pre ++ [c]).getD ((us.length : Int) - 1).toNat [] = c := by
    rw [show ((us.length : Int) - 1).toNat = pre.length by omega]; simp [List.getD_eq_getElem?_getD]
  repeat' (first
    | (refine wc_callR rfl inI rfl (c_l4Same _ _ _) rfl ?_; intro _ _)
    | (refine wc_oneAV rfl inI inI rfl (by decide) rfl ?_; intro _ _ _ _ _)
    | (refine wc_append1 (α := AV) (σ₀ := σ1) rfl rfl inI inI rfl (by decide) (by decide) inI inI (one_av inI) (by omega) (may_ge σ1) (LeS.len inI) rfl ?_; intro _ _ _ _ _ _)
    | refine wl_pop rfl (pc_ldAV rfl inI inI (by omega) inI) ?_
    | refine wl_pop rfl (pc_indexRowZ rfl rfl inI inI inI (by omega) (by omega)) ?_
    | refine wl_pop rfl (pc_lenRow rfl inI inI) ?_
    | refine wp_condPr rfl (fun _ => ?_) (fun _ => ?_)
    | refine wp_seqA ?_
    | refine wp_region_seq ?_
    | refine thru_seq_next ?_
    | refine thru_seq_ret ?_
    | refine thru_block_ret ?_
    | refine thru_block_next ?_
    | refine wp_skipA ?_
    | refine wp_retA ?_
    | refine wl_nil ?_
    | refine wl_pop rfl (po_move rfl) ?_
    | refine wl_pop rfl (po_assign rfl) ?_
    | refine wl_pop rfl (pc_sub rfl rfl (by omega) (by omega)) ?_
    | refine at_ret (res1 rfl rfl) ?_
    | fail)
  · rename_i σ6 g6 heq
    rw [hgc] at heq
    rw [hrnd, rnds_done heq]
    exact ⟨us, (inI : OW σ1 σ6 v us).down (LeS.len (inI : LeS σ σ1)), (inI : ORs σ1 σ6 us _).down (LeS.len (inI : LeS σ σ1)), (inI : LeS σ σ6).grow⟩
  · rename_i σ6 g6 hne i7 σ7 g7 n7 h7 v' σ8 happ mk8 how8 one8
    rw [hgc] at hne
    obtain ⟨f', hf', hcr', hr'⟩ := rnds_step hcan hne (by omega)
    have hpush := rounds_push (fun e => by rw [e] at hul; simp at hul) hor how hle.len (inI : OW σ4 σ7 nx _) inI happ
    exact ⟨(pre ++ [c], nextC g c, f', v'), by dsimp only; omega, ⟨Canon.next g c, by dsimp only; rw [nextC_length]; exact hcl, by dsimp only; rw [nextC_length]; exact hcr', by simp; omega, by dsimp only; rw [hrnd, hr', List.append_assoc]; rfl, inI, us ++ [nx], how8, hpush⟩, (by repeat' (first | exact sub_nil | refine sub_cons rfl ?_ | refine sub_int rfl (by first | rfl | omega | (push_cast; omega) | simp) ?_ | refine sub_eq rfl (by assumption) ?_))⟩
theorem roundsL_ne (g : Gr) : roundsL g ≠ [] := by
  unfold roundsL
  cases g.length with
  | zero => simp [rnds]
  | succ n => unfold rnds; split <;> simp
theorem roundsL_last (g : Gr) : (roundsL g).getD ((roundsL g).length - 1) [] = lastC g := by
  unfold lastC
  rw [List.getLast?_eq_getElem?, List.getD_eq_getElem?_getD]
theorem c_l4Classes (σ : Store) (u : AV) {ss : List AV} {g : Gr} [hs : RW σ u ss] [hg : RRs σ ss g] (hok : GOk g) :
    ACall Tryz.prog base F_spec_l4Classes [.agg [u]] σ (fun _ => False) (RetOW σ (lastC g)) := by
  have hb := hs.bound
  have := hs.one
  refine acall1 fun_spec_l4Classes rfl tmps_spec_l4Classes rfl fun N B w₀ ρ₀ => ?_
  repeat' (first
    | (refine wc_callORs rfl inI rfl (c_l4Rounds _ _ hok) rfl ?_; intro _ _ _ _ _ _ _)
    | refine wc_holdR 2 ?_
    | refine wc_loadn rfl inI (at_has (cs := [_]) (.inl rfl) rfl rfl) rfl ?_
    | refine wp_seqA ?_
    | refine wp_region_seq ?_
    | refine thru_seq_next ?_
    | refine wl_nil ?_
    | refine wl_pop rfl (po_assign rfl) ?_
    | (refine wc_boxA rfl inI rfl ?_; intro _ _ _ _ _)
    | fail)
  rename_i i1 σ1 g1 n1 h1 v us σ2 ov wv rv gv
  refine hold_go ?_
  have hul := rv.len
  have hne : 0 < us.length := by rw [hul]; exact List.length_pos_iff.mpr (roundsL_ne g)
  have hlast : OW σ1 σ2 (us.getD ((us.length : Int) - 1).toNat nilS) (lastC g) := by
    rw [show ((us.length : Int) - 1).toNat = us.length - 1 by omega, ← roundsL_last, ← hul]
    exact rv.row _
  have := hlast.one
  have hb2 := wv.bound
  repeat' (first
    | refine wl_pop rfl (pc_indexRowZ rfl rfl inI inI wv.rw (by omega) (by omega)) ?_
    | refine wl_pop rfl (pc_ldAV rfl inI inI (by omega) inI) ?_
    | refine wl_pop rfl (pc_lenRow rfl inI inI) ?_
    | refine wp_region_seq ?_
    | refine thru_seq_next ?_
    | refine wp_retA ?_
    | refine wl_nil ?_
    | refine wl_pop rfl (po_move rfl) ?_
    | refine wl_pop rfl (po_assign rfl) ?_
    | refine wl_pop rfl (pc_sub rfl rfl (by omega) (by omega)) ?_
    | refine at_ret (res1 rfl rfl) ?_
    | fail)
  exact ret_ow hlast (inI : LeS σ σ1) inI rfl
end
end Go.Proofs.YthbodgnoadlbcaaGreatDoor.Asl
