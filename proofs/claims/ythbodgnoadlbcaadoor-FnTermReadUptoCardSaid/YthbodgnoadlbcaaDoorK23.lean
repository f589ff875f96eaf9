/- The reader: a string of a list; a text spoilt. -/
import Derived.Test.YthbodgnoadlbcaaDoorDD
import Derived.Test.YthbodgnoadlbcaaDoorX2
import Derived.Test.YthbodgnoadlbcaaDoorX3
import Derived.Test.YthbodgnoadlbcaaDoorB9
namespace Go.Proofs.YthbodgnoadlbcaaDoor.Asl
open Go.RowKit Go.Proofs.YthbodgnoadlbcaaDoorW.PrintLast
set_option linter.unusedVariables false
set_option linter.unusedSimpArgs false
attribute [local irreducible] WP WL andThen inBlock noGoto atEnd ACall DA DL DX PO Hold
set_option maxHeartbeats 4000000
set_option synthInstance.maxHeartbeats 400000
set_option synthInstance.maxSize 10000
theorem lex_trans {i : Nat} {a b c : Store} (h : LeX i a b) (k : LeX i b c) : LeX i a c := ⟨fun j o hj ho => k.keep j o hj (h.keep j o hj ho)⟩
/-- A text of some length at most. -/
def QStr (n : Nat) : AV → Store → Prop := fun r _ => ∃ l : List UInt8, r = Str (ofL l) ∧ l.length ≤ n
section
variable {E : Env} {ops : Array Oper} {l : List Oper} {Q : Exit → Slots → Store → Prop} {S : Slots} {σ : Store} {d : Option Tmp} {ty : TypeId} {pos : String} {af : Array Edge} {x y : Operand}
theorem wc_callStr {args : Array Operand} {ats : Array TypeId} {f : FuncId} {rs caps : List AV} {i n : Nat} {s : AV} {p K : Int} (hf : S.ev x = some (.fn f caps)) (hc : Callable E.P f) (hargs : evs S args.toList = some rs)
    (h : ACall E.P E.base f (rs ++ caps) σ (fun j => j = i) (RetRd σ i s p K (QStr n))) (ho : Has σ i (RdO s p)) (hm : E.may i) (hd : okd E d = true) (k : ∀ (b : List UInt8) (p' : Int) σ₁ σ', p ≤ p' → p' ≤ p + K → b.length ≤ n → Grow σ σ₁ → Upd σ₁ i (RdO s p') σ' → WL E ops l Q (S.put d (Str (ofL b))) σ') :
    WL E ops (⟨d, .call ⟨.value x, args, ats⟩, ty, pos, af, none⟩ :: l) Q S σ :=
  wc_callRd hf hc hargs h ho hm hd fun r p' σ₁ σ' h1 h2 g u hq => by
    obtain ⟨b, rfl, h3⟩ := hq
    exact k b p' σ₁ σ' h1 h2 h3 g u
end
section
variable {base : Nat}
theorem c_l6Of (i : Nat) (s : AV) (g : List UInt8) (p : Int) (n : Nat) (v : AV) (L : List ByteArray) (σ₀ σ : Store) [hi : Has σ i (RdO s p)] [hb : Bk σ i s g] [hv : OW σ₀ σ v L] (hi0 : i < σ₀.length) (hL : 0 < L.length) (hL2 : L.length ≤ 100) (hn : ∀ b ∈ L, b.size ≤ n) (hp : 0 ≤ p) (hp2 : p ≤ 999999000) :
    ACall Tryd.prog base F_spec_l6Rd_of [.pt i 0, v] σ (fun j => j = i) (RetRd σ i s p 1 (QStr n)) := by
  have hrw := hv.rw
  have := hv.one
  have := hb.rw.one
  refine acall2 fun_spec_l6Rd_of rfl tmps_spec_l6Rd_of rfl fun N B w₀ ρ₀ => ?_
  repeat' (first
    | refine wl_pop rfl (pc_lenRow rfl hrw inferInstance) ?_
    | (refine wc_callP rfl inferInstance rfl (c_pick i s g _ _ _ (hb := hb.le inferInstance) (by omega) (by omega)) inferInstance (.inl rfl) rfl ?_; intro _ _ _ _ _ _ _ _ _ _)
    | refine wp_seqA ?_
    | refine wp_region_seq ?_
    | refine thru_seq_next ?_
    | refine wl_nil ?_
    | refine wl_pop rfl (po_move rfl) ?_
    | refine wl_pop rfl (po_assign rfl) ?_
    | fail)
  rename_i m p1 σa σb a1 a2 a3 a4 ga ua
  have hl : LeB i σ σb := inferInstance
  have hw : OW σ₀ σb v L := hv.keep fun j o hj _ ho => hl.keep.keep j o (by omega) ho
  have hrb := hw.rw
  have hm : m.toNat < L.length := by omega
  repeat' (first
    | refine wl_pop rfl (pc_indexRowZ rfl rfl inferInstance inferInstance hrb (by omega) (by omega)) ?_
    | refine wl_pop rfl (pc_ldStr rfl inferInstance hrb hm instLeRefl) ?_
    | refine thru_seq_next ?_
    | refine wp_retA ?_
    | refine wl_nil ?_
    | refine wl_pop rfl (po_assign rfl) ?_
    | refine at_ret (res1 rfl rfl) ?_
    | fail)
  obtain ⟨b, hb2⟩ := ofL_all (L.getD m.toNat ⟨#[]⟩)
  have hmem : L.getD m.toNat ⟨#[]⟩ ∈ L := by rw [List.getD_eq_getElem?_getD, List.getElem?_eq_getElem hm]; exact List.getElem_mem hm
  have hsz := hn _ hmem
  rw [hb2, ofL_size] at hsz
  exact ⟨⟨p1, by omega, by omega, inferInstance⟩, hl, b, by rw [hb2], hsz⟩
abbrev spoilB : List ByteArray := [ofL [32], ofL [41], ofL [48], ofL [97], ofL [40, 112, 97, 114, 32, 48, 32, 48, 41]]
theorem spoil_le : ∀ b ∈ spoilB, b.size ≤ 9 := by
  intro b hb
  simp only [List.mem_cons, List.not_mem_nil, or_false] at hb
  rcases hb with rfl | rfl | rfl | rfl | rfl <;> decide
theorem c_l91Spoil (i : Nat) (s : AV) (g : List UInt8) (p : Int) (l : List UInt8) (hl : l.length ≤ 3000000) (σ : Store) [hi : Has σ i (RdO s p)] [hb : Bk σ i s g] (hp : 0 ≤ p) (hp2 : p ≤ 999990000) :
    ACall Tryd.prog base F_spec_l91Spoil [.pt i 0, Str (ofL l)] σ (fun j => j = i) (RetRd σ i s p 10 (QStr (l.length + 10))) := by
  have := hb.rw.one
  have hi0 := hi.lt
  refine acall2 fun_spec_l91Spoil rfl tmps_spec_l91Spoil rfl fun N B w₀ ρ₀ => ?_
  repeat' (first
    | (refine wc_callP rfl inferInstance rfl (c_pick i s g _ _ _ (hb := hb.le inferInstance) (by omega) (by omega)) inferInstance (.inl rfl) rfl ?_; intro _ _ _ _ _ _ _ _ _ _)
    | refine wl_pop rfl (pc_lLen rfl inferInstance) ?_
    | refine wc_hold 0 ?_
    | refine wp_seqA ?_
    | refine wp_region_seq ?_
    | refine thru_seq_next ?_
    | refine wl_nil ?_
    | refine wl_pop rfl (po_move rfl) ?_
    | refine wl_pop rfl (po_assign rfl) ?_
    | refine wl_pop rfl (pc_add rfl rfl (by omega) (by omega)) ?_
    | fail)
  rename_i k p1 σa σb a1 a2 a3 a4 ga ua m p2 σc σd b1 b2 b3 b4 gc uc
  have hld : LeB i σ σd := inferInstance
  have hid : Has σd i (RdO s p2) := inferInstance
  have hbd := hb.le hld
  clear ua uc ga gc
  refine hold_go ?_
  repeat' (first
    | refine wl_pop rfl (pc_lTo rfl inferInstance rfl (by omega) (by omega)) ?_
    | refine wl_pop rfl (pc_lLen rfl inferInstance) ?_
    | refine wc_holdR 4 ?_
    | refine wc_holdR 9 ?_
    | refine wc_holdR 10 ?_
    | refine wp_seqA ?_
    | refine wp_region_seq ?_
    | refine thru_seq_next ?_
    | refine thru_seq_ret ?_
    | refine thru_block_ret ?_
    | refine thru_block_next ?_
    | refine wp_skipA ?_
    | refine wp_retA ?_
    | refine wp_blockA ?_
    | refine wl_nil ?_
    | refine wl_pop rfl (po_move rfl) ?_
    | refine wl_pop rfl (po_assign rfl) ?_
    | refine wl_pop rfl (po_binOp rfl rfl rfl) ?_
    | refine wp_condP rfl (fun _ => ?_) (fun _ => ?_)
    | refine at_ret (res1 rfl rfl) ?_
    | fail)
  · refine hold_go ?_
    refine wc_drawnXp (t := 0) i [13] mixed_ rfl rfl ?_
    refine dx_pure 0 rfl rfl (by kernel_rfl) (po_move rfl) ?_
    refine dx_pure 1 rfl rfl (by kernel_rfl) (po_move rfl) ?_
    refine dx_pure 2 rfl rfl (by kernel_rfl) (pc_lTo rfl inferInstance rfl (by omega) (by omega)) ?_
    refine dx_pure 3 rfl rfl (by kernel_rfl) (po_move rfl) ?_
    refine dx_pure 9 rfl rfl (by kernel_rfl) (po_move rfl) ?_
    refine dx_pure 10 rfl rfl (by kernel_rfl) (po_move rfl) ?_
    refine dx_pure 11 rfl rfl (by kernel_rfl) (pc_lFrom rfl inferInstance rfl (by omega) (by omega)) ?_
    refine dx_one 4 rfl (by kernel_rfl) hid (.inl rfl) ?_
    intro N' B' w' r' may' hmay
    refine wc_callP rfl inferInstance rfl (c_pick i s g _ _ _ (hb := hbd) (by omega) (by omega)) hid (hmay _ (.inl rfl)) rfl ?_
    intro v p3 σe σf c1 c2 c3 c4 ge uf
    have hlf : LeB i σd σf := inferInstance
    have hif : Has σf i (RdO s p3) := inferInstance
    refine wl_nil ⟨rfl, hlf.len, ?_⟩
    refine dx_pure 5 rfl rfl (by kernel_rfl) (pc_toByte rfl inferInstance inferInstance (by omega) (by omega)) ?_
    refine dx_new 6 rfl (by kernel_rfl) ?_
    intro N' B' w' r' may' hmay
    refine wc_oneU8 rfl inferInstance inferInstance rfl (by decide) rfl ?_
    intro j σg gg ng hg
    have hig : Has σg i (RdO s p3) := inferInstance
    have hlg : LeB i σd σg := inferInstance
    refine wl_nil ⟨rfl, gg.len, ?_⟩
    refine dx_new 7 rfl (by kernel_rfl) ?_
    intro N' B' w' r' may' hmay
    refine wl_pop rfl (pc_convByte rfl inferInstance inferInstance inferInstance (at_has (h := hg) (cs := [_]) (.inl rfl) rfl rfl) hg.lt) ?_
    refine wl_nil ⟨rfl, Nat.le_refl _, ?_⟩
    refine dx_pure 8 rfl rfl (by kernel_rfl) (pc_cat rfl rfl (by simp only [List.length_append, List.length_cons, List.length_nil, List.length_take, List.length_drop]; omega)) ?_
    refine dx_pure 12 rfl rfl (by kernel_rfl) (pc_cat rfl rfl (by simp only [List.length_append, List.length_cons, List.length_nil, List.length_take, List.length_drop]; omega)) ?_
    refine dx_last 13 rfl (by decide) (by kernel_rfl) ?_
    refine wl_pop rfl (po_assign rfl) ?_
    refine wl_nil (dl_in ?_)
    refine dl_done (by kernel_rfl) ?_
    repeat' (first
      | refine thru_seq_next ?_
      | refine thru_seq_ret ?_
      | refine thru_block_ret ?_
      | refine wp_retA ?_
      | refine at_ret (res1 rfl rfl) ?_
      | fail)
    exact ⟨⟨p3, by omega, by omega, hig⟩, ⟨lex_trans hld.keep hlg.keep, Nat.le_trans hld.len hlg.len⟩, _, rfl, by simp only [List.length_append, List.length_cons, List.length_nil, List.length_take, List.length_drop]; omega⟩
  · exact ⟨⟨p2, by omega, by omega, hid⟩, hld, _, rfl, by simp only [List.length_take]; omega⟩
  · refine hold_go ?_
    refine wc_drawn [] mixed_ rfl ?_
    all_goals refine da_takeC 0 rfl rfl (by kernel_rfl) (by first | exact po_move rfl | fail) ?_
    all_goals refine da_takeC 1 rfl rfl (by kernel_rfl) (by first | exact po_move rfl | fail) ?_
    all_goals refine da_takeC 2 rfl rfl (by kernel_rfl) (by first | exact pc_lTo rfl inferInstance rfl (by omega) (by omega) | fail) ?_
    all_goals refine da_takeC 3 rfl rfl (by kernel_rfl) (by first | exact po_move rfl | fail) ?_
    all_goals refine da_takeC 4 rfl rfl (by kernel_rfl) (by first | exact po_move rfl | fail) ?_
    all_goals refine da_takeC 5 rfl rfl (by kernel_rfl) (by first | exact pc_add rfl rfl (by omega) (by omega) | fail) ?_
    all_goals refine da_takeC 6 rfl rfl (by kernel_rfl) (by first | exact pc_lFrom rfl inferInstance rfl (by omega) (by omega) | fail) ?_
    all_goals refine da_takeC 7 rfl rfl (by kernel_rfl) (by first | exact pc_cat rfl rfl (by first | omega | (simp only [List.length_append, List.length_cons, List.length_nil, List.length_take, List.length_drop]; omega)) | fail) ?_
    all_goals refine da_takeC 8 rfl rfl (by kernel_rfl) (by first | exact po_assign rfl | fail) ?_
    all_goals refine da_done (by kernel_rfl) ?_
    repeat' (first
      | refine thru_seq_next ?_
      | refine thru_seq_ret ?_
      | refine thru_block_ret ?_
      | refine wp_retA ?_
      | refine at_ret (res1 rfl rfl) ?_
      | fail)
    exact ⟨⟨p2, by omega, by omega, hid⟩, hld, _, rfl, by simp only [List.length_append, List.length_take, List.length_drop]; omega⟩
  all_goals
    refine hold_go ?_
    repeat' (first
      | (refine wc_buildSlice (rs := [(0, Str (ofL [32])), (1, Str (ofL [41])), (2, Str (ofL [48])), (3, Str (ofL [97])), (4, Str (ofL [40, 112, 97, 114, 32, 48, 32, 48, 41]))]) (cs := rowCells spoilB) Un.eq inferInstance rfl (by decide) (by decide) rfl (by intro r hr; simp only [List.mem_cons, List.not_mem_nil, or_false] at hr; rcases hr with rfl | rfl | rfl | rfl | rfl <;> exact ⟨rfl, by simp, by simp [AV.cells, AV.one]⟩) rfl rfl ?_; intro _ _ _ _ _)
      | refine wp_region_seq ?_
      | refine wl_pop rfl (po_move rfl) ?_
      | fail)
    rename_i j σe ge ne he
    have how : OW σd σe (.sl j 0 5) spoilB := ow_of_has (l := spoilB) he ne.le rfl (by decide)
    have hie : Has σe i (RdO s p2) := inferInstance
    have hle : LeB i σd σe := inferInstance
    have hbe := hbd.le hle
    repeat' (first
      | (refine wc_callStr rfl inferInstance rfl (c_l6Of i s g _ 9 _ spoilB σd _ (hv := how) (hb := hbe) hid.lt (by decide) (by decide) spoil_le (by omega) (by omega)) inferInstance (.inl rfl) rfl ?_; intro _ _ _ _ _ _ _ _ _)
      | refine wl_pop rfl (pc_cat rfl rfl (by first | omega | (simp only [List.length_append, List.length_cons, List.length_nil, List.length_take, List.length_drop]; omega))) ?_
      | refine thru_seq_next ?_
      | refine wp_retA ?_
      | refine wl_nil ?_
      | refine wl_pop rfl (po_assign rfl) ?_
      | refine at_ret (res1 rfl rfl) ?_
      | fail)
    rename_i b p3 σf σg c1 c2 c3 gf ug
    have hlg : LeB i σe σg := inferInstance
    exact ⟨⟨p3, by omega, by omega, inferInstance⟩, ⟨lex_trans (lex_trans hld.keep hle.keep) hlg.keep, Nat.le_trans hld.len (Nat.le_trans hle.len hlg.len)⟩, _, rfl, by simp only [List.length_append]; omega⟩
end
end Go.Proofs.YthbodgnoadlbcaaDoor.Asl
