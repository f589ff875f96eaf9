/- Which graphs are ones. -/
import Derived.Test.YtpkgcdpebomalaaDoorGG
namespace Go.Proofs.YtpkgcdpebomalaaDoor.Asl
open Go.RowKit Go.Proofs.YtpkgcdpebomalaaDoorW.PrintLast
set_option linter.unusedVariables false
attribute [local irreducible] WP WL andThen inBlock noGoto atEnd ACall DA DL PO Hold
set_option maxHeartbeats 4000000

def mcmp (m n : Mv) : Int := if mlt m n = true then -1 else if mlt n m = true then 1 else 0
def icmp (a b : Int) : Int := if a < b then -1 else if b < a then 1 else 0
theorem mcmp_neg {m n : Mv} : mcmp m n < 0 ↔ mlt m n = true := by
  unfold mcmp
  split
  · rename_i h; simp [h]
  · rename_i h
    simp only [h]
    split <;> simp
theorem mcmp_ge {m n : Mv} : mcmp m n ≥ 0 ↔ ¬ mlt m n = true := by rw [← mcmp_neg]; omega
/-- A list of moves that is one, as far as a place. -/
def RowTo (n : Nat) (l : List Mv) (k : Nat) : Prop := ∀ j, j < k → (-4 ≤ (l.getD j (0, 0)).1 ∧ (l.getD j (0, 0)).1 ≤ 4) ∧ 0 ≤ (l.getD j (0, 0)).2 ∧ (l.getD j (0, 0)).2 < n ∧ (0 < j → mlt (l.getD (j - 1) (0, 0)) (l.getD j (0, 0)) = true)
theorem row_iff {n : Nat} {l : List Mv} : RowTo n l l.length ↔ (∀ m ∈ l, (-4 ≤ m.1 ∧ m.1 ≤ 4) ∧ 0 ≤ m.2 ∧ m.2 < n) ∧ Srt l := by
  have hg : ∀ j (h : j < l.length), l.getD j (0, 0) = l[j] := fun j h => by simp [List.getD_eq_getElem?_getD, h]
  constructor
  · intro h
    refine ⟨fun m hm => ?_, srt_get.mpr fun j a b ha hb => ?_⟩
    · obtain ⟨j, hj, rfl⟩ := List.getElem_of_mem hm
      have := h j hj
      rw [hg j hj] at this; exact ⟨this.1, this.2.1, this.2.2.1⟩
    · have hj : j + 1 < l.length := by
        rcases Nat.lt_or_ge (j + 1) l.length with h1 | h1
        · exact h1
        · rw [List.getElem?_eq_none h1] at hb; cases hb
      have := (h (j + 1) hj).2.2.2 (by omega)
      rw [hg _ hj, Nat.add_sub_cancel, hg j (by omega)] at this
      rw [List.getElem?_eq_getElem hj] at hb
      rw [List.getElem?_eq_getElem (by omega)] at ha
      cases ha; cases hb; exact this
  · rintro ⟨h1, h2⟩ j hj
    have := h1 l[j] (List.getElem_mem hj)
    rw [hg j hj]
    refine ⟨this.1, this.2.1, this.2.2, fun h0 => ?_⟩
    rw [hg (j - 1) (by omega)]
    refine srt_get.mp h2 (j - 1) _ _ (List.getElem?_eq_getElem (by omega)) ?_
    rw [show j - 1 + 1 = j by omega]; exact List.getElem?_eq_getElem hj
def GTo (g : Gr) (k : Nat) : Prop := ∀ s, s < k → RowTo g.length (g.getD s []) (g.getD s []).length
theorem gok_iff {g : Gr} : GOk g ↔ (1 ≤ g.length ∧ g.length ≤ 60) ∧ GTo g g.length := by
  constructor
  · intro h
    refine ⟨⟨h.pos, h.most⟩, fun s hs => ?_⟩
    have hm := rowOf_mem hs
    exact row_iff.mpr ⟨h.moves _ hm, h.srt _ hm⟩
  · rintro ⟨⟨h1, h2⟩, h3⟩
    refine ⟨h1, h2, fun l hl => ?_, fun l hl => ?_⟩ <;> obtain ⟨s, hs, rfl⟩ := List.getElem_of_mem hl
    · have := (row_iff.mp (h3 s hs)).1
      simpa [List.getD_eq_getElem?_getD, hs] using this
    · have := (row_iff.mp (h3 s hs)).2
      simpa [List.getD_eq_getElem?_getD, hs] using this
theorem not_gok {g : Gr} {s k : Nat} (hs : s < g.length) (hk : k < (g.getD s []).length) (h : ¬ ((-4 ≤ ((g.getD s []).getD k (0, 0)).1 ∧ ((g.getD s []).getD k (0, 0)).1 ≤ 4) ∧ 0 ≤ ((g.getD s []).getD k (0, 0)).2 ∧ ((g.getD s []).getD k (0, 0)).2 < g.length ∧ (0 < k → mlt ((g.getD s []).getD (k - 1) (0, 0)) ((g.getD s []).getD k (0, 0)) = true))) : ¬ GOk g :=
  fun hg => h ((gok_iff.mp hg).2 s hs k hk)
theorem rowTo_succ {n : Nat} {l : List Mv} {k : Nat} (h : RowTo n l k) (h1 : -4 ≤ (l.getD k (0, 0)).1 ∧ (l.getD k (0, 0)).1 ≤ 4) (h2 : 0 ≤ (l.getD k (0, 0)).2) (h3 : (l.getD k (0, 0)).2 < n) (h4 : 0 < k → mlt (l.getD (k - 1) (0, 0)) (l.getD k (0, 0)) = true) : RowTo n l (k + 1) := by
  intro j hj
  by_cases e : j = k
  · subst e; exact ⟨h1, h2, h3, h4⟩
  · exact h j (by omega)
theorem gTo_succ {g : Gr} {k : Nat} (h : GTo g k) (h1 : RowTo g.length (g.getD k []) (g.getD k []).length) : GTo g (k + 1) := by
  intro j hj
  by_cases e : j = k
  · subst e; exact h1
  · exact h j (by omega)

section
variable {base : Nat}
theorem cg_ActOk (σ : Store) (a : Int) : ACall Tryd.prog base F_impl_ActOk [I a] σ (fun _ => False) (Ret σ (Bo (decide (-4 ≤ a ∧ a ≤ 4)))) := by
  refine acall1 fun_impl_ActOk rfl tmps_impl_ActOk rfl fun N B w₀ ρ₀ => ?_
  repeat' (first
    | refine wp_seqA ?_
    | refine wp_region_seq ?_
    | refine thru_seq_next ?_
    | refine wp_retA ?_
    | refine wl_nil ?_
    | refine wl_pop rfl (po_move rfl) ?_
    | refine wl_pop rfl (po_assign rfl) ?_
    | refine wl_pop rfl (po_binOp rfl rfl rfl) ?_
    | refine wl_pop rfl (po_pick rfl rfl) ?_
    | refine wc_guardT_true rfl rfl rfl ?_
    | refine wc_guardF_true rfl rfl rfl rfl ?_
    | refine wc_guardP_true rfl rfl rfl rfl (fun _ => ?_) (fun _ => ?_)
    | refine at_ret (res1 rfl rfl) ?_
    | fail)
  all_goals (refine ret_ inferInstance (congrArg Bo (Bool.eq_iff_iff.mpr ?_)); simp; try omega)
theorem cg_l6In (σ : Store) (a b c : Int) : ACall Tryd.prog base F_spec_l6In [I a, I b, I c] σ (fun _ => False) (Ret σ (Bo (decide (b ≤ a ∧ a ≤ c)))) := by
  refine acall3 fun_spec_l6In rfl tmps_spec_l6In rfl fun N B w₀ ρ₀ => ?_
  repeat' (first
    | refine wp_seqA ?_
    | refine wp_region_seq ?_
    | refine thru_seq_next ?_
    | refine wp_retA ?_
    | refine wl_nil ?_
    | refine wl_pop rfl (po_move rfl) ?_
    | refine wl_pop rfl (po_assign rfl) ?_
    | refine wl_pop rfl (po_binOp rfl rfl rfl) ?_
    | refine wl_pop rfl (po_pick rfl rfl) ?_
    | refine wc_guardT_true rfl rfl rfl ?_
    | refine wc_guardF_true rfl rfl rfl rfl ?_
    | refine wc_guardP_true rfl rfl rfl rfl (fun _ => ?_) (fun _ => ?_)
    | refine at_ret (res1 rfl rfl) ?_
    | fail)
  all_goals (refine ret_ inferInstance (congrArg Bo (Bool.eq_iff_iff.mpr ?_)); simp; try omega)
theorem cg_sActOk (σ : Store) (a : Int) : ACall Tryd.prog base F_spec_ActOk [I a] σ (fun _ => False) (Ret σ (Bo (decide (-4 ≤ a ∧ a ≤ 4)))) := by
  refine acall1 fun_spec_ActOk rfl tmps_spec_ActOk rfl fun N B w₀ ρ₀ => ?_
  repeat' (first
    | (refine wc_callR rfl inferInstance rfl (cg_l6In _ _ _ _) rfl ?_; intro _ _)
    | refine wp_seqA ?_
    | refine wp_region_seq ?_
    | refine thru_seq_next ?_
    | refine wp_retA ?_
    | refine wl_nil ?_
    | refine wl_pop rfl (po_move rfl) ?_
    | refine wl_pop rfl (po_assign rfl) ?_
    | refine at_ret (res1 rfl rfl) ?_
    | exact ret_ inferInstance rfl
    | fail)
theorem c_isNaN (σ : Store) (a : Int) : ACall Tryd.prog base F_cmp_isNaN_int [I a] σ (fun _ => False) (Ret σ (Bo false)) := by
  refine acall1 fun_cmp_isNaN_int rfl tmps_cmp_isNaN_int rfl fun N B w₀ ρ₀ => ?_
  repeat' (first
    | refine wp_seqA ?_
    | refine wp_region_seq ?_
    | refine thru_seq_next ?_
    | refine wp_retA ?_
    | refine wl_nil ?_
    | refine wl_pop rfl (po_move rfl) ?_
    | refine wl_pop rfl (po_assign rfl) ?_
    | refine wl_pop rfl (po_binOp rfl rfl rfl) ?_
    | refine at_ret (res1 rfl rfl) ?_
    | fail)
  all_goals (refine ret_ inferInstance (congrArg Bo ?_); simp)
theorem c_Compare (σ : Store) (a b : Int) : ACall Tryd.prog base F_cmp_Compare_int [I a, I b] σ (fun _ => False) (Ret σ (I (icmp a b))) := by
  refine acall2 fun_cmp_Compare_int rfl tmps_cmp_Compare_int rfl fun N B w₀ ρ₀ => ?_
  repeat' (first
    | (refine wc_callR rfl inferInstance rfl (c_isNaN _ _) rfl ?_; intro _ _)
    | refine wp_seqA ?_
    | refine wp_region_seq ?_
    | refine thru_seq_next ?_
    | refine thru_seq_ret ?_
    | refine wp_skipA ?_
    | refine wp_retA ?_
    | refine wl_nil ?_
    | refine wl_pop rfl (po_move rfl) ?_
    | refine wl_pop rfl (po_assign rfl) ?_
    | refine wl_pop rfl (po_binOp rfl rfl rfl) ?_
    | refine wp_condF rfl ?_
    | refine wp_condP rfl (fun _ => ?_) (fun _ => ?_)
    | refine at_ret (res1 rfl rfl) ?_
    | fail)
  all_goals (refine ret_ inferInstance (congrArg I ?_); unfold icmp; split <;> (try split) <;> omega)
theorem c_byMove (σ : Store) (a b a' b' : Int) : ACall Tryd.prog base F_impl_byMove [.agg [I a, I b], .agg [I a', I b']] σ (fun _ => False) (Ret σ (I (mcmp (a, b) (a', b')))) := by
  refine acall2 fun_impl_byMove rfl tmps_impl_byMove rfl fun N B w₀ ρ₀ => ?_
  repeat' (first
    | (refine wc_callR rfl inferInstance rfl (c_Compare _ _ _) rfl ?_; intro _ _)
    | refine wp_seqA ?_
    | refine wp_region_seq ?_
    | refine thru_seq_next ?_
    | refine thru_seq_ret ?_
    | refine wp_skipA ?_
    | refine wp_retA ?_
    | refine wl_nil ?_
    | refine wl_pop rfl (po_move rfl) ?_
    | refine wl_pop rfl (po_assign rfl) ?_
    | refine wl_pop rfl (po_binOp rfl rfl rfl) ?_
    | refine wl_pop rfl (po_fieldAddr rfl inferInstance) ?_
    | refine wc_load1 rfl inferInstance (at_has (.inl rfl) rfl rfl) rfl ?_
    | (refine wc_boxA rfl inferInstance rfl ?_; intro _ _ _ _ _)
    | refine wp_condNP rfl (fun _ => ?_) (fun _ => ?_)
    | refine at_ret (res1 rfl rfl) ?_
    | fail)
  all_goals (refine ret_ inferInstance (congrArg I ?_); unfold mcmp; simp only [mlt_iff]; unfold icmp at *; repeat' (first | omega | split))
theorem c_l3Less (σ : Store) (a b a' b' : Int) : ACall Tryd.prog base F_spec_l3Less [.agg [I a, I b], .agg [I a', I b']] σ (fun _ => False) (Ret σ (Bo (mlt (a, b) (a', b')))) := by
  refine acall2 fun_spec_l3Less rfl tmps_spec_l3Less rfl fun N B w₀ ρ₀ => ?_
  repeat' (first
    | refine wp_seqA ?_
    | refine wp_region_seq ?_
    | refine thru_seq_next ?_
    | refine wp_retA ?_
    | refine wl_nil ?_
    | refine wl_pop rfl (po_move rfl) ?_
    | refine wl_pop rfl (po_assign rfl) ?_
    | refine wl_pop rfl (po_binOp rfl rfl rfl) ?_
    | refine wl_pop rfl (po_fieldAddr rfl inferInstance) ?_
    | refine wc_load1 rfl inferInstance (at_has (.inl rfl) rfl rfl) rfl ?_
    | (refine wc_boxA rfl inferInstance rfl ?_; intro _ _ _ _ _)
    | refine wl_pop rfl (po_pick rfl rfl) ?_
    | refine wc_guardU rfl rfl rfl rfl ?_
    | refine wc_guardT_true rfl rfl rfl ?_
    | refine wc_guardF_true rfl rfl rfl rfl ?_
    | refine wc_guardT_false rfl rfl rfl ?_
    | refine wc_guardF_false rfl rfl rfl rfl ?_
    | refine wc_guardP_true rfl rfl rfl rfl (fun _ => ?_) (fun _ => ?_)
    | refine wc_guardP_false rfl rfl rfl rfl (fun _ => ?_) (fun _ => ?_)
    | refine at_ret (res1 rfl rfl) ?_
    | fail)
  all_goals (refine ret_ inferInstance (congrArg Bo (Bool.eq_iff_iff.mpr ?_)); rw [mlt_iff]; simp; try omega)

end
end Go.Proofs.YtpkgcdpebomalaaDoor.Asl
