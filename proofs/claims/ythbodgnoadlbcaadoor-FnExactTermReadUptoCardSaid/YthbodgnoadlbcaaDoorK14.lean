/- The program's scan: its object, rules, the small methods. -/
import Derived.Test.YthbodgnoadlbcaaDoorH5
import Derived.Test.YthbodgnoadlbcaaDoorK9
import Derived.Test.YthbodgnoadlbcaaDoorDD
import Derived.Test.YthbodgnoadlbcaaDoorX1
import Derived.Test.YthbodgnoadlbcaaDoorX2
import Derived.Test.YthbodgnoadlbcaaDoorK1
namespace Go.Proofs.YthbodgnoadlbcaaDoor.Asl
open Go.RowKit Go.Proofs.YthbodgnoadlbcaaDoorW.PrintLast
set_option linter.unusedVariables false
set_option linter.unusedSimpArgs false
attribute [local irreducible] WP WL andThen inBlock noGoto atEnd ACall DA DL PO Hold nodeOk
set_option maxHeartbeats 4000000
set_option synthInstance.maxHeartbeats 400000
set_option synthInstance.maxSize 10000
abbrev ScO (r : Sc) : Ob := ⟨.own, 1, [Str (ofL r.s), I r.left, Bo r.bad], []⟩
def RetSc (σ : Store) (i : Nat) (r : Sc) (v : AV) : AV → Store → Prop := fun v' σ' => v' = v ∧ Has σ' i (ScO r) ∧ LeB i σ σ'
section
variable {E : Env} {ops : Array Oper} {l : List Oper} {Q : Exit → Slots → Store → Prop} {S : Slots} {σ : Store} {d : Option Tmp} {ty : TypeId} {pos : String} {af : Array Edge} {x y : Operand}
theorem wc_callSc {args : Array Operand} {ats : Array TypeId} {f : FuncId} {rs caps : List AV} {i : Nat} {r r0 : Sc} {v : AV} (hf : S.ev x = some (.fn f caps)) (hc : Callable E.P f) (hargs : evs S args.toList = some rs)
    (h : ACall E.P E.base f (rs ++ caps) σ (fun j => j = i) (RetSc σ i r v)) (ho : Has σ i (ScO r0)) (hm : E.may i) (hd : okd E d = true) (k : ∀ σ₁ σ', Grow σ σ₁ → Upd σ₁ i (ScO r) σ' → WL E ops l Q (S.put d v) σ') :
    WL E ops (⟨d, .call ⟨.value x, args, ats⟩, ty, pos, af, none⟩ :: l) Q S σ :=
  wl_call hf hc hargs h (fun j hj => by subst hj; exact ⟨hm, _, ho.get, .inl rfl⟩) hd fun r' σ' hK => by
    obtain ⟨e, h3, h4⟩ := hK
    subst e
    obtain ⟨σ₁, g1, u1⟩ := h4.keep.split ho h3
    exact k σ₁ σ' g1 u1
end
section
variable {base : Nat}
theorem c_ActRead (w : List UInt8) (σ : Store) : ACall Tryd.prog base F_impl_ActRead [Str (ofL w)] σ (fun _ => False) (Ret σ (.tup [I ((actOf w).getD 0), Bo (actOf w).isSome])) := by
  refine acall1 fun_impl_ActRead rfl tmps_impl_ActRead rfl fun N B w₀ ρ₀ => ?_
  repeat' (first
    | refine wp_seqA ?_
    | refine wp_region_seq ?_
    | refine thru_seq_next ?_
    | refine wp_blockA ?_
    | refine wl_nil ?_
    | refine wl_pop rfl (po_assign rfl) ?_
    | fail)
  refine wc_loop [(0, _)] (fun a : Int => [(4, I a)]) (fun a σ' => -4 ≤ a ∧ a ≤ 5 ∧ (∀ b, -4 ≤ b → b < a → actT b ≠ w) ∧ LeS σ σ') (fun a => (5 - a).toNat) (-4) ⟨by decide, by decide, fun b h1 h2 => by omega, inferInstance⟩ (by repeat' (first | exact sub_nil | refine sub_cons rfl ?_ | refine sub_int rfl (by first | rfl | omega | (push_cast; omega) | simp) ?_ | refine sub_eq rfl (by assumption) ?_)) ?_
  rintro a σ' ⟨ha1, ha2, hno, hg⟩
  have := hg.grow
  repeat' (first
    | (refine wc_callR rfl inferInstance rfl (c_ActText a ha1 (by omega) _) rfl ?_; intro _ _)
    | refine wl_pop rfl (pc_lEq rfl rfl) ?_
    | refine wp_seqA ?_
    | refine wp_region_seq ?_
    | refine thru_seq_next ?_
    | refine thru_seq_ret ?_
    | refine thru_seq ?_
    | refine thru_block_ret ?_
    | refine thru_block_next ?_
    | refine exit_here ?_
    | refine wp_skipA ?_
    | refine wp_retA ?_
    | refine wp_exitA ?_
    | refine wp_blockA ?_
    | refine wl_nil ?_
    | refine wl_pop rfl (po_move rfl) ?_
    | refine wl_pop rfl (po_assign rfl) ?_
    | refine wl_pop rfl (pc_add rfl rfl (by omega) (by omega)) ?_
    | refine wl_pop rfl (po_binOp rfl rfl rfl) ?_
    | refine wp_condP rfl (fun _ => ?_) (fun _ => ?_)
    | refine at_ret (res2 rfl rfl rfl) ?_
    | fail)
  · rename_i h4 σ'' g'' he
    exact ret_ inferInstance (by rw [actOf_hit ha1 h4 he]; rfl)
  · rename_i h4 σ'' g'' he
    refine ⟨a + 1, by omega, ⟨by omega, by omega, fun b h1 h2 => ?_, inferInstance⟩, (by repeat' (first | exact sub_nil | refine sub_cons rfl ?_ | refine sub_int rfl (by first | rfl | omega | (push_cast; omega) | simp) ?_ | refine sub_eq rfl (by assumption) ?_))⟩
    by_cases e : b = a
    · subst e; exact he
    · exact hno b h1 (by omega)
  · rename_i h4
    exact ret_ inferInstance (by rw [actOf_none (fun b h1 h2 => hno b h1 (by omega))]; rfl)
theorem c_sActRead (w : List UInt8) (σ : Store) : ACall Tryd.prog base F_spec_ActRead [Str (ofL w)] σ (fun _ => False) (Ret σ (.tup [I ((actOf w).getD 0), Bo (actOf w).isSome])) := by
  refine acall1 fun_spec_ActRead rfl tmps_spec_ActRead rfl fun N B w₀ ρ₀ => ?_
  repeat' (first
    | refine wp_seqA ?_
    | refine wp_region_seq ?_
    | refine thru_seq_next ?_
    | refine wp_blockA ?_
    | refine wl_nil ?_
    | refine wl_pop rfl (po_assign rfl) ?_
    | fail)
  refine wc_loop [(0, _)] (fun a : Int => [(4, I a)]) (fun a σ' => -4 ≤ a ∧ a ≤ 5 ∧ (∀ b, -4 ≤ b → b < a → actT b ≠ w) ∧ LeS σ σ') (fun a => (5 - a).toNat) (-4) ⟨by decide, by decide, fun b h1 h2 => by omega, inferInstance⟩ (by repeat' (first | exact sub_nil | refine sub_cons rfl ?_ | refine sub_int rfl (by first | rfl | omega | (push_cast; omega) | simp) ?_ | refine sub_eq rfl (by assumption) ?_)) ?_
  rintro a σ' ⟨ha1, ha2, hno, hg⟩
  have := hg.grow
  repeat' (first
    | (refine wc_callR rfl inferInstance rfl (c_l1Text a ha1 (by omega) _) rfl ?_; intro _ _)
    | refine wl_pop rfl (pc_lEq rfl rfl) ?_
    | refine wp_seqA ?_
    | refine wp_region_seq ?_
    | refine thru_seq_next ?_
    | refine thru_seq_ret ?_
    | refine thru_seq ?_
    | refine thru_block_ret ?_
    | refine thru_block_next ?_
    | refine exit_here ?_
    | refine wp_skipA ?_
    | refine wp_retA ?_
    | refine wp_exitA ?_
    | refine wp_blockA ?_
    | refine wl_nil ?_
    | refine wl_pop rfl (po_move rfl) ?_
    | refine wl_pop rfl (po_assign rfl) ?_
    | refine wl_pop rfl (pc_add rfl rfl (by omega) (by omega)) ?_
    | refine wl_pop rfl (po_binOp rfl rfl rfl) ?_
    | refine wp_condP rfl (fun _ => ?_) (fun _ => ?_)
    | refine at_ret (res2 rfl rfl rfl) ?_
    | fail)
  · rename_i h4 σ'' g'' he
    exact ret_ inferInstance (by rw [actOf_hit ha1 h4 he]; rfl)
  · rename_i h4 σ'' g'' he
    refine ⟨a + 1, by omega, ⟨by omega, by omega, fun b h1 h2 => ?_, inferInstance⟩, (by repeat' (first | exact sub_nil | refine sub_cons rfl ?_ | refine sub_int rfl (by first | rfl | omega | (push_cast; omega) | simp) ?_ | refine sub_eq rfl (by assumption) ?_))⟩
    by_cases e : b = a
    · subst e; exact he
    · exact hno b h1 (by omega)
  · rename_i h4
    exact ret_ inferInstance (by rw [actOf_none (fun b h1 h2 => hno b h1 (by omega))]; rfl)
theorem acall_plain2 {P : Program} {f : FuncId} {σ : Store} {u v r : Value} {x : AV} (hx : ∀ ρ, R ρ x r) (h : ∀ w, Calls P f #[u, v] w fun e w' => e = .returned r ∧ w' = w) : ACall P base f [.lit u, .lit v] σ (fun _ => False) (Ret σ x) := by
  unfold ACall
  intro w ρ us h1 h2
  cases h1 with
  | cons a b =>
    cases b with
    | cons c d =>
      cases d
      have := R_lit a
      subst this
      have := R_lit c
      subst this
      refine (h w).mono ?_
      rintro e w' ⟨rfl, rfl⟩
      exact ⟨x, r, σ, ρ, rfl, hx ρ, ret_ inferInstance rfl, h2, Le.refl _, Nat.le_refl _, fun _ _ h _ => h, fun id p hp hi => absurd (h2.dom id p hp) (by omega), Fr.refl _ _ _⟩
theorem acall_below2 {P : Program} {f : FuncId} {σ : Store} {u v r : Value} {x : AV} (hx : ∀ ρ, R ρ x r) (h : ∀ w, Calls P f #[u, v] w fun e w' => e = .returned r ∧ Below w.heap.size w w') : ACall P base f [.lit u, .lit v] σ (fun _ => False) (Ret σ x) := by
  unfold ACall
  intro w ρ us h1 h2
  cases h1 with
  | cons a b =>
    cases b with
    | cons c d =>
      cases d
      have := R_lit a
      subst this
      have := R_lit c
      subst this
      refine (h w).mono ?_
      rintro e w' ⟨rfl, hb⟩
      have hS : Sim base ρ σ w' := ⟨h2.dom, fun id o p ho hp => (h2.obs id o p ho hp).of_block (Le.refl ρ) (hb.block p.blk (h2.size id p hp)), h2.inj, fun id p hp => Nat.lt_of_lt_of_le (h2.size id p hp) hb.size, Nat.le_trans h2.le hb.size⟩
      exact ⟨x, r, σ, ρ, rfl, hx ρ, ret_ inferInstance rfl, hS, Le.refl _, Nat.le_refl _, fun _ _ h _ => h, fun id p hp hi => absurd (h2.dom id p hp) (by omega), Fr.of_below hb⟩
theorem c_CutPrefix (a w : List UInt8) (σ : Store) : ACall Tryd.prog base F_strings_CutPrefix [Str (ofL a), Str (ofL w)] σ (fun _ => False) (Ret σ (.tup [Str (ofL (if w.isPrefixOf a = true then a.drop w.length else a)), Bo (w.isPrefixOf a)])) :=
  acall_plain2 (r := .tuple #[.string (ofL (if w.isPrefixOf a = true then a.drop w.length else a)), .bool (w.isPrefixOf a)]) (fun ρ => R.tup (.cons (.lit _) (.cons (.lit _) .nil))) fun W => Any.strings_CutPrefix Tryd.layCutPrefix (ofL a) (ofL w) W
theorem c_IndexAny (a : List UInt8) (ha : a.length < 4294967281) (σ : Store) : ACall Tryd.prog base F_strings_IndexAny [Str (ofL a), Str (ofL [32, 40, 41])] σ (fun _ => False) (Ret σ (I (Lib.indexAny a [32, 40, 41]))) :=
  acall_below2 (r := .int .i64 (Lib.indexAny a [32, 40, 41])) (fun ρ => .lit _) fun W => indexAny_any Tryd.layIndexAny (by kernel_rfl) (ofL a) (ofL [32, 40, 41]) W (by rw [ofL_size]; exact ha) (by decide) (by decide) (by decide)
end
theorem idx_word (s : List UInt8) : (Lib.indexAny s [32, 40, 41] = -1 ∧ wordL s = s ∧ restL s = []) ∨ (Lib.indexAny s [32, 40, 41] = ((wordL s).length : Int) ∧ (wordL s).length < s.length) := by
  induction s with
  | nil => exact .inl ⟨rfl, rfl, rfl⟩
  | cons b l ih =>
    have hc : ([32, 40, 41] : List UInt8).contains b = dlm b := by
      unfold dlm
      simp only [List.contains_cons, List.contains_nil, Bool.or_false]
      cases (b == 32) <;> cases (b == 40) <;> cases (b == 41) <;> rfl
    unfold Lib.indexAny
    rw [hc]
    cases hb : dlm b with
    | true => right; simp [wordL, hb]
    | false =>
      have e1 : wordL (b :: l) = b :: wordL l := by simp [wordL, hb]
      have e2 : restL (b :: l) = restL l := by simp [restL, hb]
      rw [e1, e2]
      rcases ih with ⟨h1, h2, h3⟩ | ⟨h1, h2⟩
      · left; rw [h1, h2, h3]; simp
      · right
        have : ¬ ((wordL l).length : Int) = -1 := by omega
        rw [h1]
        simp only [beq_iff_eq, this, if_false, Bool.false_eq_true, List.length_cons]
        omega
theorem word_take (s : List UInt8) : s.take (wordL s).length = wordL s ∧ s.drop (wordL s).length = restL s := by
  have h := word_rest s
  generalize wordL s = a at *
  generalize restL s = b at *
  subst h
  exact ⟨List.take_left, List.drop_left⟩
section
variable {base : Nat}
theorem c_take (i : Nat) (w : List UInt8) (r : Sc) (σ : Store) [hi : Has σ i (ScO r)] : ACall Tryd.prog base F_impl_scan_take [.pt i 0, Str (ofL w)] σ (fun j => j = i) (RetSc σ i ((r.take w).getD r) (Bo (r.take w).isSome)) := by
  refine acall2 fun_impl_scan_take rfl tmps_impl_scan_take rfl fun N B w₀ ρ₀ => ?_
  repeat' (first
    | (refine wc_store1 rfl rfl inferInstance inferInstance inferInstance (Nat.le_of_ble_eq_true rfl) (.inl rfl) ?_; intro _ _)
    | (refine wc_callR rfl inferInstance rfl (c_CutPrefix r.s w _) rfl ?_; intro _ _)
    | refine wp_seqA ?_
    | refine wp_region_seq ?_
    | refine thru_seq_next ?_
    | refine wp_skipA ?_
    | refine wp_retA ?_
    | refine wl_nil ?_
    | refine wl_pop rfl (po_move rfl) ?_
    | refine wl_pop rfl (po_assign rfl) ?_
    | refine wl_pop rfl (po_fieldAddr rfl inferInstance) ?_
    | refine wc_load1 rfl inferInstance (at_has (.inl rfl) rfl rfl) rfl ?_
    | refine wl_pop rfl (po_nilCheck rfl) ?_
    | refine wl_pop rfl (po_extract rfl rfl) ?_
    | refine wp_condA rfl (fun _ => ?_) (fun _ => ?_)
    | refine at_ret (res1 rfl rfl) ?_
    | fail)
  · rename_i σa ga hp σb ub
    have e : r.take w = some ⟨r.s.drop w.length, r.left, r.bad⟩ := by unfold Sc.take; rw [if_pos hp]
    rw [if_pos hp] at ub
    exact ⟨by rw [e, hp]; rfl, by rw [e]; exact (instHasUpd (g := ub) : Has σb i _), inferInstance⟩
  · rename_i σa ga hp
    have e : r.take w = none := by unfold Sc.take; rw [if_neg (by rw [hp]; decide)]
    exact ⟨by rw [e, hp]; rfl, by rw [e]; exact (inferInstance : Has σa i (ScO r)), inferInstance⟩
theorem c_must (i : Nat) (w : List UInt8) (r : Sc) (σ : Store) [hi : Has σ i (ScO r)] : ACall Tryd.prog base F_impl_scan_must [.pt i 0, Str (ofL w)] σ (fun j => j = i) (RetSc σ i (r.must w) (.tup [])) := by
  refine acall2 fun_impl_scan_must rfl tmps_impl_scan_must rfl fun N B w₀ ρ₀ => ?_
  repeat' (first
    | (refine wc_store1 rfl rfl inferInstance inferInstance inferInstance (Nat.le_of_ble_eq_true rfl) (.inl rfl) ?_; intro _ _)
    | (refine wc_callSc rfl inferInstance rfl (c_take i w r _) inferInstance (.inl rfl) rfl ?_; intro _ _ _ _)
    | refine at_next (res0 rfl) ?_
    | refine wp_seqA ?_
    | refine wp_region_seq ?_
    | refine thru_seq_next ?_
    | refine wp_skipA ?_
    | refine wl_nil ?_
    | refine wl_pop rfl (po_move rfl) ?_
    | refine wl_pop rfl (po_fieldAddr rfl inferInstance) ?_
    | refine wl_pop rfl (po_not rfl) ?_
    | refine wl_pop rfl (po_nilCheck rfl) ?_
    | refine wp_condA rfl (fun _ => ?_) (fun _ => ?_)
    | fail)
  · rename_i σa σb gb ub hb σc uc
    have e : r.take w = none := by cases h : r.take w <;> simp_all
    rw [e] at uc
    exact ⟨rfl, by unfold Sc.must; rw [e]; exact (instHasUpd (g := uc) : Has σc i _), inferInstance⟩
  · rename_i σa σb gb ub hb
    obtain ⟨r1, e⟩ : ∃ r1, r.take w = some r1 := by cases h : r.take w <;> simp_all
    rw [e] at ub
    exact ⟨rfl, by unfold Sc.must; rw [e]; exact (instHasUpd (g := ub) : Has σb i _), inferInstance⟩
theorem c_word (i : Nat) (r : Sc) (hl : r.s.length < 4294967281) (σ : Store) [hi : Has σ i (ScO r)] : ACall Tryd.prog base F_impl_scan_word [.pt i 0] σ (fun j => j = i) (RetSc σ i ⟨restL r.s, r.left, r.bad⟩ (Str (ofL (wordL r.s)))) := by
  have hw := idx_word r.s
  obtain ⟨ht, hd⟩ := word_take r.s
  refine acall1 fun_impl_scan_word rfl tmps_impl_scan_word rfl fun N B w₀ ρ₀ => ?_
  repeat' (first
    | (refine wc_store1 rfl rfl inferInstance inferInstance inferInstance (Nat.le_of_ble_eq_true rfl) (.inl rfl) ?_; intro _ _)
    | (refine wc_callR rfl inferInstance rfl (c_IndexAny r.s hl _) rfl ?_; intro _ _)
    | refine wl_pop rfl (pc_lLen rfl inferInstance) ?_
    | refine wl_pop rfl (pc_lTo rfl inferInstance rfl (by omega) (by omega)) ?_
    | refine wl_pop rfl (pc_lFrom rfl inferInstance rfl (by omega) (by omega)) ?_
    | refine wp_seqA ?_
    | refine wp_region_seq ?_
    | refine thru_seq_next ?_
    | refine wp_skipA ?_
    | refine wp_retA ?_
    | refine wl_nil ?_
    | refine wl_pop rfl (po_move rfl) ?_
    | refine wl_pop rfl (po_assign rfl) ?_
    | refine wl_pop rfl (po_binOp rfl rfl rfl) ?_
    | refine wl_pop rfl (po_fieldAddr rfl inferInstance) ?_
    | refine wc_load1 rfl inferInstance (at_has (.inl rfl) rfl rfl) rfl ?_
    | refine wl_pop rfl (po_nilCheck rfl) ?_
    | refine wp_condP rfl (fun _ => ?_) (fun _ => ?_)
    | refine at_ret (res1 rfl rfl) ?_
    | fail)
  · rename_i σa ga hn σb ub
    rcases hw with ⟨h1, h2, h3⟩ | ⟨h1, h2⟩
    · have e : List.drop ((r.s.length : Int)).toNat r.s = restL r.s := by rw [h3]; simp
      rw [e] at ub
      exact ⟨congrArg (fun x => Str (ofL x)) (by rw [h2]; simp), (instHasUpd (g := ub) : Has σb i _), inferInstance⟩
    · exfalso; omega
  · rename_i σa ga hn σb ub
    rcases hw with ⟨h1, h2, h3⟩ | ⟨h1, h2⟩
    · exfalso; omega
    · have e : (Lib.indexAny r.s [32, 40, 41]).toNat = (wordL r.s).length := by omega
      rw [e, hd] at ub
      exact ⟨congrArg (fun x => Str (ofL x)) (by rw [e, ht]), (instHasUpd (g := ub) : Has σb i _), inferInstance⟩
theorem c_node (i : Nat) (r : Sc) (h0 : -1 ≤ r.left) (h1 : r.left ≤ 1000) (σ : Store) [hi : Has σ i (ScO r)] : ACall Tryd.prog base F_impl_scan_node [.pt i 0] σ (fun j => j = i) (RetSc σ i r.node (Bo (!r.node.bad))) := by
  refine acall1 fun_impl_scan_node rfl tmps_impl_scan_node rfl fun N B w₀ ρ₀ => ?_
  repeat' (first
    | (refine wc_store1 rfl rfl inferInstance inferInstance inferInstance (Nat.le_of_ble_eq_true rfl) (.inl rfl) ?_; intro _ _)
    | refine wp_seqA ?_
    | refine wp_region_seq ?_
    | refine thru_seq_next ?_
    | refine wp_skipA ?_
    | refine wp_retA ?_
    | refine wl_nil ?_
    | refine wl_pop rfl (po_move rfl) ?_
    | refine wl_pop rfl (po_assign rfl) ?_
    | refine wl_pop rfl (pc_sub rfl rfl (by omega) (by omega)) ?_
    | refine wl_pop rfl (po_binOp rfl rfl rfl) ?_
    | refine wl_pop rfl (po_fieldAddr rfl inferInstance) ?_
    | refine wc_load1 rfl inferInstance (at_has (.inl rfl) rfl rfl) rfl ?_
    | refine wl_pop rfl (po_not rfl) ?_
    | refine wl_pop rfl (po_nilCheck rfl) ?_
    | refine wp_condP rfl (fun _ => ?_) (fun _ => ?_)
    | refine at_ret (res1 rfl rfl) ?_
    | fail)
  · rename_i σa ua hn σb ub
    have e : r.node = ⟨r.s, r.left - 1, true⟩ := by simp [Sc.node, hn]
    exact ⟨by rw [e], by rw [e]; exact (instHasUpd (g := ub) : Has σb i _), inferInstance⟩
  · rename_i σa ua hn
    have e : r.node = ⟨r.s, r.left - 1, r.bad⟩ := by simp [Sc.node, hn]
    exact ⟨by rw [e], by rw [e]; exact (instHasUpd (g := ua) : Has σa i _), inferInstance⟩
theorem c_act (i : Nat) (r : Sc) (hl : r.s.length < 4294967281) (σ : Store) [hi : Has σ i (ScO r)] : ACall Tryd.prog base F_impl_scan_act [.pt i 0] σ (fun j => j = i) (RetSc σ i r.act.2 (I r.act.1)) := by
  refine acall1 fun_impl_scan_act rfl tmps_impl_scan_act rfl fun N B w₀ ρ₀ => ?_
  repeat' (first
    | (refine wc_store1 rfl rfl inferInstance inferInstance inferInstance (Nat.le_of_ble_eq_true rfl) (.inl rfl) ?_; intro _ _)
    | (refine wc_callSc rfl inferInstance rfl (c_word i r hl _) inferInstance (.inl rfl) rfl ?_; intro _ _ _ _)
    | (refine wc_callR rfl inferInstance rfl (c_ActRead (wordL r.s) _) rfl ?_; intro _ _)
    | refine wp_seqA ?_
    | refine wp_region_seq ?_
    | refine thru_seq_next ?_
    | refine wp_retA ?_
    | refine wl_nil ?_
    | refine wl_pop rfl (po_move rfl) ?_
    | refine wl_pop rfl (po_assign rfl) ?_
    | refine wl_pop rfl (po_fieldAddr rfl inferInstance) ?_
    | refine wc_load1 rfl inferInstance (at_has (.inl rfl) rfl rfl) rfl ?_
    | refine wl_pop rfl (po_not rfl) ?_
    | refine wl_pop rfl (po_nilCheck rfl) ?_
    | refine wl_pop rfl (po_extract rfl rfl) ?_
    | refine wl_pop rfl (po_pick rfl rfl) ?_
    | refine wc_guardT_false rfl rfl rfl ?_
    | refine wc_guardF_false rfl rfl rfl rfl ?_
    | refine wc_guard rfl rfl rfl rfl (fun _ => ?_) (fun _ => ?_)
    | refine at_ret (res1 rfl rfl) ?_
    | fail)
  · rename_i σa σb gb ub σc gc hb σd ud
    have e : r.act.2 = ⟨restL r.s, r.left, !(actOf (wordL r.s)).isSome⟩ := by simp only [Sc.act]; rw [show r.bad = false from hb]; rfl
    exact ⟨rfl, by rw [e]; exact (instHasUpd (g := ud) : Has σd i _), inferInstance⟩
  · rename_i σa σb gb ub σc gc hb σd ud
    have e : r.act.2 = ⟨restL r.s, r.left, true⟩ := by simp only [Sc.act]; rw [show r.bad = true from hb]; rfl
    exact ⟨rfl, by rw [e]; exact (instHasUpd (g := ud) : Has σd i _), inferInstance⟩
theorem c_name (i : Nat) (r : Sc) (hl : r.s.length < 4294967281) (σ : Store) [hi : Has σ i (ScO r)] : ACall Tryd.prog base F_impl_scan_name [.pt i 0] σ (fun j => j = i) (RetSc σ i r.name.2 (I r.name.1)) := by
  have hbd : -4 ≤ (actOf (wordL r.s)).getD 0 ∧ (actOf (wordL r.s)).getD 0 ≤ 4 := by
    cases e : actOf (wordL r.s) with
    | none => simp
    | some a => simpa using (actOf_some e).2
  refine acall1 fun_impl_scan_name rfl tmps_impl_scan_name rfl fun N B w₀ ρ₀ => ?_
  repeat' (first
    | (refine wc_store1 rfl rfl inferInstance inferInstance inferInstance (Nat.le_of_ble_eq_true rfl) (.inl rfl) ?_; intro _ _)
    | (refine wc_callSc rfl inferInstance rfl (c_word i r hl _) inferInstance (.inl rfl) rfl ?_; intro _ _ _ _)
    | (refine wc_callR rfl inferInstance rfl (c_ActRead (wordL r.s) _) rfl ?_; intro _ _)
    | refine wp_seqA ?_
    | refine wp_region_seq ?_
    | refine thru_seq_next ?_
    | refine wp_retA ?_
    | refine wl_nil ?_
    | refine wl_pop rfl (po_move rfl) ?_
    | refine wl_pop rfl (po_assign rfl) ?_
    | refine wl_pop rfl (pc_sub rfl rfl (by omega) (by omega)) ?_
    | refine wl_pop rfl (po_binOp rfl rfl rfl) ?_
    | refine wl_pop rfl (po_fieldAddr rfl inferInstance) ?_
    | refine wc_load1 rfl inferInstance (at_has (.inl rfl) rfl rfl) rfl ?_
    | refine wl_pop rfl (po_not rfl) ?_
    | refine wl_pop rfl (po_nilCheck rfl) ?_
    | refine wl_pop rfl (po_extract rfl rfl) ?_
    | refine wl_pop rfl (po_pick rfl rfl) ?_
    | refine wc_guardT_false rfl rfl rfl ?_
    | refine wc_guardF_false rfl rfl rfl rfl ?_
    | refine wc_guard rfl rfl rfl rfl (fun _ => ?_) (fun _ => ?_)
    | refine at_ret (res1 rfl rfl) ?_
    | fail)
  · rename_i σa σb gb ub σc gc hb hs σd ud
    have e : r.name.2 = ⟨restL r.s, r.left, decide ((actOf (wordL r.s)).getD 0 ≤ 0)⟩ := by simp only [Sc.name]; rw [show r.bad = false from hb, hs]; rfl
    exact ⟨rfl, by rw [e]; exact (instHasUpd (g := ud) : Has σd i _), inferInstance⟩
  · rename_i σa σb gb ub σc gc hb hs σd ud
    have e : r.name.2 = ⟨restL r.s, r.left, true⟩ := by simp only [Sc.name]; rw [show r.bad = false from hb, show (!(actOf (wordL r.s)).isSome) = true from hs]; rfl
    exact ⟨rfl, by rw [e]; exact (instHasUpd (g := ud) : Has σd i _), inferInstance⟩
  · rename_i σa σb gb ub σc gc hb σd ud
    have e : r.name.2 = ⟨restL r.s, r.left, true⟩ := by simp only [Sc.name]; rw [show r.bad = true from hb]; rfl
    exact ⟨rfl, by rw [e]; exact (instHasUpd (g := ud) : Has σd i _), inferInstance⟩
end
end Go.Proofs.YthbodgnoadlbcaaDoor.Asl
