/- A marked term read again. -/
import Derived.Test.YthbodgnoadlbcaaDoorT20
import Derived.Test.YthbodgnoadlbcaaDoorTU
namespace Go.Proofs.YthbodgnoadlbcaaDoor.Asl
open Go.RowKit
set_option linter.unusedVariables false
attribute [local irreducible] WP WL andThen inBlock noGoto atEnd ACall DA DL PO Hold actB inB nodeOk Tm.shape Tm.ok
set_option maxHeartbeats 4000000

section
variable {base : Nat}
theorem c_heldTermS_of {ps : List Tm} (h : ∀ p ∈ ps, ∀ (b : Int) (σ : Store) (s : AV) [RTs σ s (Tm.marks b p.ps)], 0 ≤ b → b + 2 * (Tm.cnts p.ps : Int) ≤ 1000000000000 → ACall Tryd.prog base F_laws_heldTermS [s, I b] σ (fun _ => False) (Ret σ (I (b + 2 * (Tm.cnts p.ps : Int)))))
    (a : Int) (σ : Store) (s : AV) [hs : RTs σ s (Tm.marks a ps)] (ha : 0 ≤ a) (ha2 : a + 2 * (Tm.cnts ps : Int) ≤ 1000000000000) : ACall Tryd.prog base F_laws_heldTermS [s, I a] σ (fun _ => False) (Ret σ (I (a + 2 * (Tm.cnts ps : Int)))) := by
  have hb := hs.bound
  have := hs.one
  have hml := Tm.marks_length ps a
  refine acall2 fun_laws_heldTermS rfl tmps_laws_heldTermS rfl fun N B w₀ ρ₀ => ?_
  repeat' (first
    | refine wp_seqA ?_
    | refine wp_region_seq ?_
    | refine thru_seq_next ?_
    | refine wp_blockA ?_
    | refine wl_nil ?_
    | refine wl_pop rfl (po_assign rfl) ?_
    | fail)
  refine wc_loop [(0, _)] (fun k : Nat => [(1, I (a + 2 * (Tm.cnts (ps.take k) : Int))), (5, I k)]) (fun k σ' => k ≤ ps.length ∧ LeS σ σ') (fun k => ps.length - k) 0 ⟨Nat.zero_le _, inferInstance⟩ (sub_int rfl (by simp [Tm.cnts]) (sub_int rfl (by simp) (sub_cons rfl sub_nil))) ?_
  rintro k σ' ⟨hk, hg⟩
  have := hg.grow
  have hcl := Tm.cnts_le (ps := ps) k
  repeat' (first
    | refine wp_seqA ?_
    | refine wp_region_seq ?_
    | refine thru_seq_next ?_
    | refine thru_seq ?_
    | refine exit_here ?_
    | refine wp_skipA ?_
    | refine wp_retA ?_
    | refine wp_exitA ?_
    | refine wp_blockA ?_
    | refine wl_nil ?_
    | refine wl_pop rfl (po_move rfl) ?_
    | refine wl_pop rfl (po_assign rfl) ?_
    | refine wl_pop rfl (po_binOp rfl rfl rfl) ?_
    | refine wp_condP rfl (fun _ => ?_) (fun _ => ?_)
    | refine wl_pop rfl (pc_lenT rfl inferInstance inferInstance) ?_
    | refine at_ret (res1 rfl rfl) ?_
    | fail)
  rotate_left
  · obtain rfl : k = ps.length := by omega
    rw [List.take_length]
    exact ret_ inferInstance rfl
  have hk' : k < ps.length := by omega
  have hkm : k < (Tm.marks a ps).length := by omega
  have hct := Tm.cnts_take hk'
  have hcl1 := Tm.cnts_le (ps := ps) (k + 1)
  have hcnt : ps[k].cnt = 1 + Tm.cnts ps[k].ps := by cases ps[k]; simp [Tm.cnt, Tm.ps]
  have hm : (Tm.marks a ps)[k] = ps[k].mark (a + 2 * (Tm.cnts (ps.take k) : Int)) := by
    have := Tm.marks_get ps a k ps[k] (List.getElem?_eq_getElem hk')
    rw [List.getElem?_eq_getElem hkm] at this
    simpa using this
  obtain ⟨id, off, s', rfl, hat, hrs⟩ := (inferInstance : RTs σ' s (Tm.marks a ps)).part hkm
  rw [hm] at hat hrs
  generalize hA : a + 2 * (Tm.cnts (ps.take k) : Int) = A at *
  have e1 : (ps[k].mark A).op = A := by cases ps[k]; rfl
  have e2 : (ps[k].mark A).n = A + 1 := by cases ps[k]; rfl
  have e3 : (ps[k].mark A).ps = Tm.marks (A + 1 + 1) ps[k].ps := by rw [show A + 1 + 1 = A + 2 by omega]; cases ps[k]; rfl
  rw [e1, e2] at hat
  rw [e3] at hrs
  have := hrs.one
  have hat0 : At σ' id (off + k * 3 + 0) 1 [I A] := at_sub hat rfl
  have hat1 : At σ' id (off + k * 3 + 1) 1 [I (A + 1)] := at_sub hat rfl
  have hat2 : At σ' id (off + k * 3 + 2) 1 [s'] := at_sub hat rfl
  repeat' (first
    | (refine wc_callR rfl inferInstance rfl (h _ (List.getElem_mem hk') _ _ _ (by omega) (by omega)) rfl ?_; intro _ _)
    | refine wp_seqA ?_
    | refine wp_region_seq ?_
    | refine thru_seq_next ?_
    | refine thru_seq_ret ?_
    | refine thru_block_ret ?_
    | refine thru_block_next ?_
    | refine wp_skipA ?_
    | refine wp_retA ?_
    | refine wl_nil ?_
    | refine wl_pop rfl (po_move rfl) ?_
    | refine wl_pop rfl (po_assign rfl) ?_
    | refine wl_pop rfl (pc_add rfl rfl (by omega) (by omega)) ?_
    | refine wl_pop rfl (po_binOp rfl rfl rfl) ?_
    | refine wl_pop rfl (pc_indexAddr rfl rfl inferInstance inferInstance (by omega)) ?_
    | refine wl_pop rfl (po_fieldAddr rfl inferInstance) ?_
    | refine wc_load1 rfl inferInstance inferInstance rfl ?_
    | refine wp_condP rfl (fun _ => ?_) (fun _ => ?_)
    | refine wp_condNP rfl (fun _ => ?_) (fun _ => ?_)
    | refine at_ret (res1 rfl rfl) ?_
    | fail)
  all_goals first
    | (exfalso; first | contradiction | omega)
    | skip
  refine ⟨k + 1, by omega, ⟨hk', inferInstance⟩, sub_int rfl (by rw [hct, hcnt]; push_cast; omega) (sub_int rfl (by simp) (sub_cons rfl sub_nil))⟩
theorem c_heldTermS (t : Tm) : ∀ (a : Int) (σ : Store) (s : AV) [RTs σ s (Tm.marks a t.ps)], 0 ≤ a → a + 2 * (Tm.cnts t.ps : Int) ≤ 1000000000000 → ACall Tryd.prog base F_laws_heldTermS [s, I a] σ (fun _ => False) (Ret σ (I (a + 2 * (Tm.cnts t.ps : Int)))) := by
  induction t using Tm.ind with
  | _ op n ps ih => exact fun a σ s hs ha ha2 => c_heldTermS_of ih a σ s (hs := hs) ha ha2
theorem c_heldTerm (t : Tm) (op n a : Int) (σ : Store) (s : AV) [hs : RTs σ s (Tm.marks a t.ps)] (ha : 0 ≤ a) (ha2 : a + 2 * (Tm.cnts t.ps : Int) ≤ 1000000000000) : ACall Tryd.prog base F_laws_heldTerm [.agg [I op, I n, s], I a] σ (fun _ => False) (Ret σ (I (a + 2 * (Tm.cnts t.ps : Int)))) := by
  have := hs.one
  refine acall2 fun_laws_heldTerm rfl tmps_laws_heldTerm rfl fun N B w₀ ρ₀ => ?_
  repeat' (first
    | (refine wc_callR rfl inferInstance rfl (c_heldTermS t _ _ _ ha ha2) rfl ?_; intro _ _)
    | refine wp_seqA ?_
    | refine wp_region_seq ?_
    | refine thru_seq_next ?_
    | refine thru_seq_ret ?_
    | refine wp_skipA ?_
    | refine wp_retA ?_
    | refine wl_nil ?_
    | refine wl_pop rfl (po_move rfl) ?_
    | refine wl_pop rfl (po_assign rfl) ?_
    | refine wl_pop rfl (po_binOp rfl rfl rfl) ?_
    | refine wl_pop rfl (po_fieldAddr rfl inferInstance) ?_
    | refine wc_load1 rfl inferInstance (at_has (.inl rfl) rfl rfl) rfl ?_
    | (refine wc_boxA rfl inferInstance rfl ?_; intro _ _ _ _ _)
    | refine wp_condP rfl (fun _ => ?_) (fun _ => ?_)
    | refine at_ret (res1 rfl rfl) ?_
    | exact ret_ inferInstance rfl
    | fail)
  all_goals first
    | (exfalso; omega)
    | exact ret_ inferInstance rfl
end
end Go.Proofs.YthbodgnoadlbcaaDoor.Asl
