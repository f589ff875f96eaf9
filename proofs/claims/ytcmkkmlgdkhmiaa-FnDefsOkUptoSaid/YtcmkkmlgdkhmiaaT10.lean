/- The names of a term: lists. -/
import Derived.Test.YtcmkkmlgdkhmiaaT9
namespace Go.Proofs.Ytcmkkmlgdkhmiaa.Asl
open Go.RowKit
set_option linter.unusedVariables false
attribute [local irreducible] WP WL andThen inBlock noGoto atEnd ACall DA DL PO Hold actB inB nodeOk
set_option maxHeartbeats 4000000

/-- A list of numbers in an object of its own. -/
abbrev Ints (xs : List Int) : Ob := ⟨.own, 1, xs.map I, []⟩
/-- A new list of numbers is answered. -/
def RetInts (σ : Store) (xs : List Int) : AV → Store → Prop := fun r σ' => ∃ i, r = .sl i 0 xs.length ∧ New σ i ∧ Has σ' i (Ints xs) ∧ Grow σ σ'
theorem ret_ints {σ σ' : Store} {xs : List Int} {i n : Nat} (hn : n = xs.length) (h : New σ i) (hh : Has σ' i (Ints xs)) (g : LeS σ σ') : RetInts σ xs (.sl i 0 n) σ' := by subst hn; exact ⟨i, rfl, h, hh, g.grow⟩

/-- The names below a bound that are free. -/
def Tm.namesTo (t : Tm) : Nat → List Int
  | 0 => []
  | k + 1 => t.namesTo k ++ if t.ok && t.fr k then [(k : Int)] else []
theorem Tm.namesTo_len (t : Tm) (k : Nat) : (t.namesTo k).length ≤ k := by
  induction k with
  | zero => simp [Tm.namesTo]
  | succ k ih => simp only [Tm.namesTo, List.length_append]; split <;> simp <;> omega
theorem Tm.namesTo_no {t : Tm} (h : t.ok = false) (k : Nat) : t.namesTo k = [] := by
  induction k with
  | zero => rfl
  | succ k ih => simp [Tm.namesTo, ih, h]
theorem Tm.namesTo_yes {t : Tm} {k : Nat} (h : t.ok = true) (hf : t.fr k = true) : t.namesTo (k + 1) = t.namesTo k ++ [(k : Int)] := by simp [Tm.namesTo, h, hf]
theorem Tm.namesTo_not {t : Tm} {k : Nat} (hf : t.fr k = false) : t.namesTo (k + 1) = t.namesTo k := by simp [Tm.namesTo, hf]
def Tm.names (t : Tm) : List Int := t.namesTo 4
theorem names_len (t : Tm) : t.names.length ≤ 4 := t.namesTo_len 4
theorem Tm.ok_shape {t : Tm} (h : t.ok = true) : t.shape = true := by simp only [Tm.ok, Bool.and_eq_true] at h; exact h.2

section
variable {E : Env} {ops : Array Oper} {l : List Oper} {Q : Exit → Slots → Store → Prop} {S : Slots} {σ : Store} {d : Option Tmp} {ty : TypeId} {pos : String} {af : Array Edge} {x y : Operand}
theorem wc_callInts {args : Array Operand} {ats : Array TypeId} {f : FuncId} {rs caps : List AV} {xs : List Int} (hf : S.ev x = some (.fn f caps)) (hc : Callable E.P f) (hargs : evs S args.toList = some rs)
    (h : ACall E.P E.base f (rs ++ caps) σ (fun _ => False) (RetInts σ xs)) (hd : okd E d = true) (k : ∀ i σ', Grow σ σ' → New σ i → Has σ' i (Ints xs) → WL E ops l Q (S.put d (.sl i 0 xs.length)) σ') :
    WL E ops (⟨d, .call ⟨.value x, args, ats⟩, ty, pos, af, none⟩ :: l) Q S σ :=
  wc_call hf hc hargs h hd fun r' σ' h => by obtain ⟨i, e, hn, hh, hg⟩ := h; subst e; exact k i σ' hg hn hh
/-- A number is appended to a list of numbers. -/
theorem wc_appendInt {t e : TypeId} {i j bytes : Nat} {xs : List Int} {z : Int} {zv : Value} (hx : S.ev x = some (.sl i 0 xs.length)) (hy : S.ev y = some (.sl j 0 1)) (ht : Un E.P t (.slice e)) (he : Ty E.P e false 1 bytes zv) (hz : zv.cells.size = 1) (hb0 : 0 < bytes) (hb : bytes ≤ 4096)
    (ho : Has σ i (Ints xs)) (ho2 : Has σ j ⟨.own, 1, [I z], []⟩) (hm : E.may i) (hlen : xs.length ≤ 4294967296) (hd : okd E d = true)
    (k : ∀ i' σ₁ σ', Upd σ i ⟨.dead, 1, xs.map I, []⟩ σ₁ → Grow σ₁ σ' → New σ i' → Has σ' i' (Ints (xs ++ [z])) → WL E ops l Q (S.put d (.sl i' 0 (xs ++ [z]).length)) σ') :
    WL E ops (⟨d, .call ⟨.builtin .append, #[x, y], #[t, t]⟩, ty, pos, af, none⟩ :: l) Q S σ := by
  refine wc_append hx hy ht.eq he hz hb0 ho rfl (by simp) (Appends.row (cs := [I z]) ho2.get (.inr rfl) rfl rfl (by simp [AV.one])) hm ?_ hd ?_
  · have : (xs.length + 1) * bytes ≤ 4294967297 * 4096 := Nat.mul_le_mul (by omega) hb
    omega
  · intro i' σ₁ σ' hu hg hn hh
    have := k i' σ₁ σ' hu hg hn (by simpa [Ints] using hh)
    simpa using this
end

section
variable {base : Nat}
theorem c_sTermNames (t : Tm) (σ : Store) (s : AV) [hs : RTs σ s t.ps] : ACall Try.prog base F_spec_TermNames [.agg [I t.op, I t.n, s]] σ (fun _ => False) (RetInts σ t.names) := by
  have := hs.one
  refine acall1 fun_spec_TermNames rfl tmps_spec_TermNames rfl fun N B w₀ ρ₀ => ?_
  repeat' (first
    | (refine wc_buildSlice (cs := []) Un.eq inferInstance rfl (by decide) (by decide) rfl (by simp) rfl rfl ?_; intro _ _ _ _ _)
    | refine wp_seqA ?_
    | refine wp_region_seq ?_
    | refine thru_seq_next ?_
    | refine wp_blockA ?_
    | refine wl_nil ?_
    | refine wl_pop rfl (po_assign rfl) ?_
    | (refine wc_boxA rfl inferInstance rfl ?_; intro _ _ _ _ _)
    | fail)
  rename_i i1 σ₁ g1 n1 h1 i2 σ₂ g2 n2 h2
  refine wc_loop [(1, .pt i1 0)] (fun x : Nat × Nat => [(3, .sl x.2 0 (t.namesTo x.1).length), (4, I x.1)]) (fun x σ' => x.1 ≤ 4 ∧ LeS σ₁ σ' ∧ New σ₁ x.2 ∧ Has σ' x.2 (Ints (t.namesTo x.1))) (fun x => 4 - x.1) (0, i2) ⟨Nat.zero_le _, inferInstance, n2, h2⟩ (sub_cons rfl (sub_int rfl (by simp) (sub_cons rfl sub_nil))) ?_
  rintro ⟨k, j⟩ σ' ⟨hk, hg, hn, hj⟩
  dsimp only at hk hn hj ⊢
  have := hg.grow
  have hl := t.namesTo_len k
  repeat' (first
    | (refine wc_callR rfl inferInstance rfl (c_sTermOk t _ _) rfl ?_; intro _ _)
    | refine wp_seqA ?_
    | refine wp_region_seq ?_
    | refine thru_seq_next ?_
    | refine thru_seq ?_
    | refine exit_here ?_
    | refine wp_skipA ?_
    | refine wp_retA ?_
    | refine wp_exitA ?_
    | refine wp_blockA ?_
    | refine wl_nil ?_
    | refine wl_pop rfl (po_move rfl) ?_
    | refine wl_pop rfl (po_assign rfl) ?_
    | refine wl_pop rfl (po_binOp rfl rfl rfl) ?_
    | refine wc_loadn rfl inferInstance (at_has (cs := [_, _, _]) (.inl rfl) rfl rfl) rfl ?_
    | refine wl_pop rfl (po_pick rfl rfl) ?_
    | refine wc_guardT_true rfl rfl rfl ?_
    | refine wc_guardF_true rfl rfl rfl rfl ?_
    | refine wc_guardP_true rfl rfl rfl rfl (fun _ => ?_) (fun _ => ?_)
    | refine wp_condF rfl ?_
    | refine wp_condA rfl (fun _ => ?_) (fun _ => ?_)
    | refine at_ret (res1 rfl rfl) ?_
    | fail)
  rotate_left
  · rename_i hok
    refine ret_ints ?_ (hn.mono inferInstance) (by rw [Tm.names, Tm.namesTo_no hok]; rw [Tm.namesTo_no hok] at hj; infer_instance) inferInstance
    rw [Tm.names, Tm.namesTo_no hok, Tm.namesTo_no hok]
  · obtain rfl : k = 4 := by omega
    exact ret_ints rfl (hn.mono inferInstance) hj inferInstance
  rename_i σ3 g3 hok
  repeat' (first
    | (refine wc_callR rfl inferInstance rfl (c_l2Free k t (Tm.ok_shape hok) _ _) rfl ?_; intro _ _)
    | (refine wc_buildSlice (cs := [I k]) Un.eq inferInstance rfl (by decide) (by decide) rfl (by simp [AV.cells, AV.one]) rfl rfl ?_; intro _ _ _ _ _)
    | (refine wc_appendInt rfl rfl inferInstance inferInstance rfl (by decide) (by decide) inferInstance inferInstance (.inr (may_new _)) (by omega) rfl ?_; intro _ _ _ _ _ _ _)
    | refine wp_region_seq ?_
    | refine thru_seq_next ?_
    | refine thru_block_next ?_
    | refine wp_skipA ?_
    | refine wl_nil ?_
    | refine wl_pop rfl (po_move rfl) ?_
    | refine wl_pop rfl (po_assign rfl) ?_
    | refine wl_pop rfl (pc_add rfl rfl (by omega) (by omega)) ?_
    | refine wp_condA rfl (fun _ => ?_) (fun _ => ?_)
    | fail)
  · rename_i hf i3 σ4 g4 n4 h4 i5 σ5 σ6 u5 g6 n6 h6
    rw [← Tm.namesTo_yes hok hf] at h6
    refine ⟨(k + 1, i5), by dsimp only; omega, ⟨by dsimp only; omega, inferInstance, ?_, h6⟩, ?_⟩
    · exact n6.mono inferInstance
    · refine sub_cons ?_ (sub_int rfl (by simp) (sub_cons rfl sub_nil))
      rw [Tm.namesTo_yes hok hf]; rfl
  · rename_i hf
    refine ⟨(k + 1, j), by dsimp only; omega, ⟨by dsimp only; omega, inferInstance, hn, by rw [Tm.namesTo_not hf]; infer_instance⟩, ?_⟩
    refine sub_cons ?_ (sub_int rfl (by simp) (sub_cons rfl sub_nil))
    rw [Tm.namesTo_not hf]; rfl

theorem c_TermNames (t : Tm) (σ : Store) (s : AV) [hs : RTs σ s t.ps] : ACall Try.prog base F_impl_TermNames [.agg [I t.op, I t.n, s]] σ (fun _ => False) (RetInts σ t.names) := by
  have := hs.one
  refine acall1 fun_impl_TermNames rfl tmps_impl_TermNames rfl fun N B w₀ ρ₀ => ?_
  repeat' (first
    | refine wl_pop rfl (pc_buildZ (cs := arr fun _ => false) inferInstance inferInstance inferInstance rfl) ?_
    | (refine wc_storeA rfl rfl inferInstance inferInstance rfl (arr_ones _) (Nat.le_of_ble_eq_true rfl) (.inr (may_new _)) ?_; intro _ _)
    | (refine wc_buildSlice (cs := []) Un.eq inferInstance rfl (by decide) (by decide) rfl (by simp) rfl rfl ?_; intro _ _ _ _ _)
    | (refine wc_callR rfl inferInstance rfl (c_TermOk t _ _) rfl ?_; intro _ _)
    | refine wc_holdIf ?_
    | refine wp_seqA ?_
    | refine wp_region_seq ?_
    | refine thru_seq_next ?_
    | refine wl_nil ?_
    | refine wl_pop rfl (po_assign rfl) ?_
    | refine wc_loadn rfl inferInstance (at_has (cs := [_, _, _]) (.inl rfl) rfl rfl) rfl ?_
    | (refine wc_boxA rfl inferInstance rfl ?_; intro _ _ _ _ _)
    | (refine wc_allocA (cs := [_, _, _, _]) inferInstance rfl inferInstance rfl ?_; intro _ _ _ _ _)
    | fail)
  rename_i i1 σ₁ g1 n1 h1 i2 σ₂ g2 n2 h2 i3 σ₃ g3 n3 h3 σ₄ u4 σ₅ g5
  have h4 : Has σ₄ i3 (Arr fun _ => false) := by
    have : Has σ₄ i3 ⟨.own, 1, splice [Bo false, Bo false, Bo false, Bo false] 0 (arr fun _ => false), []⟩ := inferInstance
    exact this
  refine wc_cut (ι := Unit) [(1, .pt i1 0), (3, .pt i3 0), (4, .sl i2 0 0)] (fun _ => []) (fun _ σ' => LeS σ₂ σ' ∧ Has σ' i3 (Arr fun q => t.ok && t.fr q)) ?_ ?_
  · repeat' (first
      | refine wp_region_seq ?_
      | refine thru_seq_next ?_
      | refine wp_skipA ?_
      | refine wc_loadn rfl inferInstance (at_has (cs := [_, _, _]) (.inl rfl) rfl rfl) rfl ?_
      | refine wp_condA rfl (fun _ => ?_) (fun _ => ?_)
      | fail)
    · rename_i hok
      repeat' (first
        | (refine wc_callU rfl inferInstance rfl (c_freeNames t (Tm.ok_shape hok) (fun _ => false) _ _ _) inferInstance (.inr (may_new _)) rfl ?_; intro _ _ _ _)
        | refine thru_seq_next ?_
        | refine wl_nil ?_
        | fail)
      rename_i σ6 σ7 g6 u7
      refine ⟨(), ⟨inferInstance, ?_⟩, sub_cons rfl (sub_cons rfl (sub_cons rfl sub_nil))⟩
      exact Has.arr (m := fun q => false || t.fr q) inferInstance (fun k _ => by simp [hok])
    · rename_i hok
      exact ⟨(), ⟨inferInstance, Has.arr (m := fun _ => false) inferInstance (fun k _ => by simp [hok])⟩, sub_cons rfl (sub_cons rfl (sub_cons rfl sub_nil))⟩
  rintro _ σ6 ⟨hg6, hj6⟩
  have := hg6.grow
  have hat4 := arr_at4 hj6
  repeat' (first
    | refine wp_seqA ?_
    | refine wp_region_seq ?_
    | refine thru_seq_next ?_
    | refine wp_blockA ?_
    | refine wl_nil ?_
    | refine wl_pop rfl (po_move rfl) ?_
    | refine wc_loadn rfl inferInstance (at_has (cs := [_, _, _, _]) (.inl rfl) rfl rfl) rfl ?_
    | fail)
  refine wc_loop [(13, .agg (arr fun q => t.ok && t.fr q))] (fun x : Nat × Nat => [(4, .sl x.2 0 (t.namesTo x.1).length), (14, I x.1)]) (fun x σ' => x.1 ≤ 4 ∧ LeS σ₁ σ' ∧ New σ₁ x.2 ∧ Has σ' x.2 (Ints (t.namesTo x.1))) (fun x => 4 - x.1) (0, i2) ⟨Nat.zero_le _, inferInstance, n2, (inferInstance : Has σ6 i2 ⟨.own, 1, [], []⟩)⟩ (sub_cons rfl (sub_int rfl (by simp) (sub_cons rfl sub_nil))) ?_
  rintro ⟨k, j⟩ σ' ⟨hk, hg, hn, hj⟩
  dsimp only at hk hn hj ⊢
  have := hg.grow
  have hl := t.namesTo_len k
  repeat' (first
    | refine wl_pop rfl (pc_indexArr rfl rfl inferInstance inferInstance (by omega) (arr_get (by omega))) ?_
    | (refine wc_buildSlice (cs := [I k]) Un.eq inferInstance rfl (by decide) (by decide) rfl (by simp [AV.cells, AV.one]) rfl rfl ?_; intro _ _ _ _ _)
    | (refine wc_appendInt rfl rfl inferInstance inferInstance rfl (by decide) (by decide) inferInstance inferInstance (.inr (may_new _)) (by omega) rfl ?_; intro _ _ _ _ _ _ _)
    | refine wp_seqA ?_
    | refine wp_region_seq ?_
    | refine thru_seq_next ?_
    | refine thru_seq ?_
    | refine thru_block_next ?_
    | refine exit_here ?_
    | refine wp_skipA ?_
    | refine wp_retA ?_
    | refine wp_exitA ?_
    | refine wp_blockA ?_
    | refine wl_nil ?_
    | refine wl_pop rfl (po_move rfl) ?_
    | refine wl_pop rfl (po_assign rfl) ?_
    | refine wl_pop rfl (pc_add rfl rfl (by omega) (by omega)) ?_
    | refine wl_pop rfl (po_binOp rfl rfl rfl) ?_
    | refine wp_condP rfl (fun _ => ?_) (fun _ => ?_)
    | refine wp_condA rfl (fun _ => ?_) (fun _ => ?_)
    | refine at_ret (res1 rfl rfl) ?_
    | fail)
  · rename_i hf i7 σ7 g7 n7 h7 i8 σ8 σ9 u8 g9 n9 h9
    have he : t.namesTo (k + 1) = t.namesTo k ++ [(k : Int)] := by simp [Tm.namesTo, hf]
    rw [← he] at h9
    refine ⟨(k + 1, i8), by dsimp only; omega, ⟨by dsimp only; omega, inferInstance, n9.mono inferInstance, h9⟩, ?_⟩
    refine sub_cons ?_ (sub_int rfl (by simp) (sub_cons rfl sub_nil))
    rw [he]; rfl
  · rename_i hf
    have he : t.namesTo (k + 1) = t.namesTo k := by simp [Tm.namesTo, hf]
    refine ⟨(k + 1, j), by dsimp only; omega, ⟨by dsimp only; omega, inferInstance, hn, by rw [he]; infer_instance⟩, ?_⟩
    refine sub_cons ?_ (sub_int rfl (by simp) (sub_cons rfl sub_nil))
    rw [he]; rfl
  · obtain rfl : k = 4 := by omega
    exact ret_ints rfl (hn.mono inferInstance) hj inferInstance
end
end Go.Proofs.Ytcmkkmlgdkhmiaa.Asl
