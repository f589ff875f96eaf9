/- Reading a term: the program's way. -/
import Derived.Test.YthbodgnoadlbcaaDoorK16
import Derived.Test.YthbodgnoadlbcaaDoorT20
import Derived.Test.YthbodgnoadlbcaaDoorL20
namespace Go.Proofs.YthbodgnoadlbcaaDoor.Asl
open Go.RowKit Go.Proofs.YthbodgnoadlbcaaDoorW.PrintLast
set_option linter.unusedVariables false
set_option linter.unusedSimpArgs false
attribute [local irreducible] WP WL andThen inBlock noGoto atEnd ACall DA DL DX PO Hold nodeOk termS
set_option maxHeartbeats 4000000
set_option synthInstance.maxHeartbeats 400000
set_option synthInstance.maxSize 10000
section
variable {E : Env} {S : Slots} {σ : Store} {d : Option Tmp} {ty : TypeId} {pos : String} {af : Array Edge} {g : Option (Nat × Bool)} {x0 x1 : Operand} {t : TypeId} {n0 : Nat}
theorem pc_sc2 {bytes : Nat} {z : Value} {a : ByteArray} {b : Int} (hx : S.ev x0 = some (Str a)) (hy : S.ev x1 = some (I b)) (hst : StructAt E.P t [(0, 1), (1, 1), (2, 1)]) (ht : Ty E.P t true 3 bytes z) (hz : z.cells.toList = [.string ⟨#[]⟩, .int .i64 0, .bool false]) :
    PO E S σ n0 ⟨d, .build t #[(0, x0), (1, x1)], ty, pos, af, g⟩ (.agg [Str a, I b, Bo false]) := by
  have hzs : z.cells.size = 3 := by rw [← Array.length_toList, hz]; rfl
  refine po_build (rs := [(0, Str a), (1, I b)]) hst ht (by simp [evParts, hx, hy]) ?_ ?_
  · intro r hr
    simp only [List.mem_cons, List.not_mem_nil, or_false] at hr
    rcases hr with rfl | rfl
    · exact ⟨0, 1, rfl, rfl, by omega⟩
    · exact ⟨1, 1, rfl, rfl, by omega⟩
  · rw [hz]; rfl
end
section
variable {base : Nat}
theorem c_TermRead (s : List UInt8) (hs : s.length ≤ 4000000) (σ : Store) : ACall Tryd.prog base F_impl_TermRead [Str (ofL s)] σ (fun _ => False) (RetTO σ (readO s)) := by
  have hT := c_term (base := base) (nb := 4000000) (by omega) 25 (by omega)
  have hok : Sc.ok 4000000 24 ⟨s, 24, false⟩ := ⟨hs, Int.le_refl _, fun _ => (by show (0 : Int) ≤ 24; decide), (by show (-1 : Int) ≤ 24; decide)⟩
  have hrd := termS_read s
  refine acall1 fun_impl_TermRead rfl tmps_impl_TermRead rfl fun N B w₀ ρ₀ => ?_
  repeat' (first
    | refine wl_pop rfl (pc_sc2 rfl rfl inferInstance inferInstance rfl) ?_
    | refine wc_holdR 2 ?_
    | refine wp_seqA ?_
    | refine wp_region_seq ?_
    | refine thru_seq_next ?_
    | refine wl_nil ?_
    | refine wl_pop rfl (po_move rfl) ?_
    | refine wl_pop rfl (po_assign rfl) ?_
    | (refine wc_boxA rfl inferInstance rfl ?_; intro _ _ _ _ _)
    | (refine wc_allocA (cs := [_, _, _]) inferInstance rfl inferInstance rfl ?_; intro _ _ _ _ _)
    | fail)
  rename_i i1 σ1 g1 n1 h1 i2 σ2 g2 n2 h2
  have hi2 : Has σ2 i2 (ScO ⟨s, 24, false⟩) := h2
  have y1 := n2.le
  have y2 := g1.len
  have y3 := h2.lt
  refine hold_go ?_
  repeat' (first
    | (refine wc_callScan rfl inferInstance rfl (hT i2 ⟨s, 24, false⟩ 24 _ rfl hok (by decide)) inferInstance (.inr (by omega)) rfl ?_; intro _ _ _ _ _ _ _)
    | refine wc_holdR 3 ?_
    | refine wp_seqA ?_
    | refine wp_region_seq ?_
    | refine thru_seq_next ?_
    | refine wl_nil ?_
    | refine wl_pop rfl (po_move rfl) ?_
    | (refine wc_storeA rfl rfl inferInstance inferInstance rfl inferInstance (Nat.le_of_ble_eq_true rfl) (.inr (may_new _)) ?_; intro _ _)
    | (refine wc_allocA (cs := [_, _, _]) inferInstance rfl inferInstance rfl ?_; intro _ _ _ _ _)
    | fail)
  rename_i u σ3 σ4 ou ru g4 u4 i5 σ5 g5 n5 h5 σ6 u6
  generalize termS 25 ⟨s, 24, false⟩ = z at *
  have y4 := n5.le
  have y5 := Upd.len u4
  have y6 := g4.len
  have k6 : ∀ (q : Nat) (o : Ob), q < σ4.length → σ4[q]? = some o → σ6[q]? = some o := fun q o hq ho => by rw [u6.eq, List.getElem?_set_ne (by omega)]; exact g5.keep q o ho
  have q2 : Has σ6 i2 (ScO z.2) := ⟨k6 _ _ (by omega) (instHasUpd (g := u4) : Has σ4 i2 (ScO z.2)).get⟩
  have q5 : Has σ6 i5 ⟨.own, 1, [I z.1.op, I z.1.n, u], []⟩ := instHasUpd (g := u6)
  have ql : LeS σ σ6 := inferInstance
  have q1 : Has σ6 i1 ⟨.own, 1, [I 0, I 0, nilS], []⟩ := ⟨k6 _ _ (by have := h1.lt; omega) (by rw [u4.eq, List.getElem?_set_ne (by have := h1.lt; omega)]; exact g4.keep _ _ (g2.keep _ _ h1.get))⟩
  have rr : RepD σ6 (fun q => σ2.length ≤ q ∧ q < σ4.length) u z.1.ps := ru.rep.lt.mono (fun q o hq ho => k6 q o hq.2 ho) (fun q h => h)
  have rt : RTs σ6 u z.1.ps := ⟨rr.rep.mono (fun _ _ _ h => h) (fun _ _ => trivial)⟩
  have n1' : New σ i1 := n1
  clear u4 u6 h5 h2 hi2
  refine hold_go ?_
  repeat' (first
    | refine wl_pop rfl (pc_build0 (cs := [I 0, I 0, nilS]) inferInstance inferInstance rfl) ?_
    | (refine wc_storeA rfl rfl inferInstance inferInstance rfl inferInstance (Nat.le_of_ble_eq_true rfl) (.inr (may_new _)) ?_; intro _ _)
    | refine wl_pop rfl (pc_lNe (b := []) rfl rfl) ?_
    | refine wl_pop rfl (pc_lNe (b := s) rfl rfl) ?_
    | (refine wc_callR rfl inferInstance rfl (c_TermText z.1 _ _) rfl ?_; intro _ _)
    | refine wp_seqA ?_
    | refine wp_region_seq ?_
    | refine thru_seq_next ?_
    | refine thru_seq_ret ?_
    | refine wp_skipA ?_
    | refine wp_retA ?_
    | refine wl_nil ?_
    | refine wl_pop rfl (po_move rfl) ?_
    | refine wl_pop rfl (po_assign rfl) ?_
    | refine wl_pop rfl (po_fieldAddr rfl inferInstance) ?_
    | refine wc_load1 rfl inferInstance (at_has (.inl rfl) rfl rfl) rfl ?_
    | refine wc_loadn rfl inferInstance (at_has (cs := [_, _, _]) (.inl rfl) rfl rfl) rfl ?_
    | refine wl_pop rfl (po_nilCheck rfl) ?_
    | refine wl_pop rfl (po_pick rfl rfl) ?_
    | refine wc_guardT_false rfl rfl rfl ?_
    | refine wc_guardF_false rfl rfl rfl rfl ?_
    | refine wc_guardNP_false rfl rfl rfl rfl (fun _ => ?_) (fun _ => ?_)
    | refine wc_guard rfl rfl rfl rfl (fun _ => ?_) (fun _ => ?_)
    | refine wp_condT rfl ?_
    | refine wp_condNP rfl (fun _ => ?_) (fun _ => ?_)
    | refine at_ret (res_cell2 rfl rfl inferInstance (at_has (cs := [_, _, _]) (.inl rfl) rfl rfl) rfl) ?_
    | fail)
  · rename_i hb hz σ7 g7 ht σ8 u8
    exact ret_to_none (by rw [← hrd, if_neg (fun h => ht h.2)]) inferInstance
  · rename_i hb hz σ7 g7 ht σ8 u8
    have y7 := h1.lt
    refine ret_to (σ₁ := σ2) (by rw [← hrd, if_pos ⟨⟨hb, hz⟩, ht⟩]) ⟨rr.mono (fun q o hq ho => ?_) (fun q hq => hq.1)⟩ inferInstance inferInstance
    rw [u8.eq, List.getElem?_set_ne (by omega)]
    exact g7.keep q o ho
  · rename_i hb hz σ7 u7
    exact ret_to_none (by rw [← hrd, if_neg (fun h => hz h.1.2)]) inferInstance
  · rename_i hb σ7 u7
    exact ret_to_none (by rw [← hrd, if_neg (fun h => by have := h.1.1; simp_all)]) inferInstance
end
end Go.Proofs.YthbodgnoadlbcaaDoor.Asl
