/- Several texts in one. -/
import Derived.Test.YthbodgnoadlbcaaGreatDoorBB
import Derived.Test.YthbodgnoadlbcaaGreatDoorTT
/- The free names of a term. -/
namespace Go.Proofs.YthbodgnoadlbcaaGreatDoor.Asl
open Go.RowKit
set_option linter.unusedVariables false
attribute [local irreducible] WP WL andThen inBlock noGoto atEnd ACall DA DL PO Hold actB inB nodeOk
set_option maxHeartbeats 4000000

mutual
def Tm.fr (k : Nat) : Tm → Bool | .node op n ps => if op = 4 ∧ n = (k : Int) then false else Tm.frs k ps || decide (op = 1 ∧ n ≠ 0 ∧ max n (-n) - 1 = (k : Int))
def Tm.frs (k : Nat) : List Tm → Bool | [] => false | p :: ps => p.fr k || Tm.frs k ps
end
/-- An array of four truths. -/
def arr (m : Nat → Bool) : List AV := [Bo (m 0), Bo (m 1), Bo (m 2), Bo (m 3)]
theorem arr_ext {m m' : Nat → Bool} (h : ∀ k, k < 4 → m k = m' k) : arr m = arr m' := by
  simp [arr, h 0 (by omega), h 1 (by omega), h 2 (by omega), h 3 (by omega)]
abbrev Arr (m : Nat → Bool) : Ob := ⟨.own, 1, arr m, []⟩
theorem Has.arr {σ : Store} {j : Nat} {m m' : Nat → Bool} (h : Has σ j (Arr m)) (e : ∀ k, k < 4 → m k = m' k) : Has σ j (Arr m') := ⟨by have := h.get; rwa [show Arr m = Arr m' from by simp only [Arr, arr_ext e]] at this⟩
section
variable {base : Nat}
theorem c_nameOf (σ : Store) (a : Int) (h0 : -4 ≤ a) (h1 : a ≤ 4) (h2 : a ≠ 0) : ACall Tryz.prog base F_impl_nameOf [I a] σ (fun _ => False) (Ret σ (I ((max a (-a) - 1).toNat : Nat))) := by
  refine acall1 fun_impl_nameOf rfl tmps_impl_nameOf rfl fun N B w₀ ρ₀ => ?_
  repeat' (first
    | refine wl_pop rfl (pc_neg rfl (by omega) (by omega)) ?_
    | refine wp_seqA ?_
    | refine wp_region_seq ?_
    | refine thru_seq_next ?_
    | refine wp_retA ?_
    | refine wl_nil ?_
    | refine wl_pop rfl (po_move rfl) ?_
    | refine wl_pop rfl (po_assign rfl) ?_
    | refine wl_pop rfl (pc_sub rfl rfl (by omega) (by omega)) ?_
    | refine wl_pop rfl (pc_max rfl rfl) ?_
    | refine at_ret (res1 rfl rfl) ?_
    | fail)
  refine ret_ inferInstance (congrArg I ?_)
  omega
theorem c_l1Name (σ : Store) (a : Int) (h0 : -1000 ≤ a) (h1 : a ≤ 1000) : ACall Tryz.prog base F_spec_l1Name [I a] σ (fun _ => False) (Ret σ (I (max a (-a) - 1))) := by
  refine acall1 fun_spec_l1Name rfl tmps_spec_l1Name rfl fun N B w₀ ρ₀ => ?_
  repeat' (first
    | refine wl_pop rfl (pc_neg rfl (by omega) (by omega)) ?_
    | refine wp_seqA ?_
    | refine wp_region_seq ?_
    | refine thru_seq_next ?_
    | refine wp_retA ?_
    | refine wl_nil ?_
    | refine wl_pop rfl (po_move rfl) ?_
    | refine wl_pop rfl (po_assign rfl) ?_
    | refine wl_pop rfl (pc_sub rfl rfl (by omega) (by omega)) ?_
    | refine wl_pop rfl (pc_max rfl rfl) ?_
    | refine at_ret (res1 rfl rfl) ?_
    | exact ret_ inferInstance rfl
    | fail)

end
end Go.Proofs.YthbodgnoadlbcaaGreatDoor.Asl

/- The free names of a term: the program's marks. -/
namespace Go.Proofs.YthbodgnoadlbcaaGreatDoor.Asl
open Go.RowKit
set_option linter.unusedVariables false
attribute [local irreducible] WP WL andThen inBlock noGoto atEnd ACall DA DL PO Hold actB inB nodeOk
set_option maxHeartbeats 4000000

end Go.Proofs.YthbodgnoadlbcaaGreatDoor.Asl

/- The names of a term: lists. -/
namespace Go.Proofs.YthbodgnoadlbcaaGreatDoor.Asl
open Go.RowKit
set_option linter.unusedVariables false
attribute [local irreducible] WP WL andThen inBlock noGoto atEnd ACall DA DL PO Hold actB inB nodeOk
set_option maxHeartbeats 4000000

/-- A list of numbers in an object of its own. -/
abbrev Ints (xs : List Int) : Ob := ⟨.own, 1, xs.map I, []⟩
/-- A new list of numbers is answered. -/
def RetInts (σ : Store) (xs : List Int) : AV → Store → Prop := fun r σ' => ∃ i, r = .sl i 0 xs.length ∧ New σ i ∧ Has σ' i (Ints xs) ∧ Grow σ σ'
/-- The names below a bound that are free. -/
def Tm.namesTo (t : Tm) : Nat → List Int
  | 0 => []
  | k + 1 => t.namesTo k ++ if t.ok && t.fr k then [(k : Int)] else []
def Tm.names (t : Tm) : List Int := t.namesTo 4

end Go.Proofs.YthbodgnoadlbcaaGreatDoor.Asl

/- Lists of numbers compared and marked; terms marked. -/
namespace Go.Proofs.YthbodgnoadlbcaaGreatDoor.Asl
open Go.RowKit
set_option linter.unusedVariables false
attribute [local irreducible] WP WL andThen inBlock noGoto atEnd ACall DA DL PO Hold actB inB nodeOk
set_option maxHeartbeats 4000000

section
variable {base : Nat}
/-- Numbers that count on. -/
def countFrom (a : Int) : Nat → List Int
  | 0 => []
  | n + 1 => countFrom a n ++ [a + n]
end
end Go.Proofs.YthbodgnoadlbcaaGreatDoor.Asl

/- Terms marked: what is new since two stores may turn. -/
namespace Go.Proofs.YthbodgnoadlbcaaGreatDoor.Asl
open Go.RowKit
set_option linter.unusedVariables false
attribute [local irreducible] WP WL andThen inBlock noGoto atEnd ACall DA DL PO Hold actB inB nodeOk
set_option maxHeartbeats 4000000

instance instRTsMk {σ σa σb σ' : Store} {s : AV} {ts : List Tm} [m : Mk σ σa σb σ'] [a : LeS σa σ] [h : RTs σa s ts] : RTs σ' s ts :=
  ⟨h.rep.mono (fun j o _ ho => m.keep j o (.inl (Has.lt ⟨ho⟩)) (a.keep j o ho)) (fun _ _ => trivial)⟩
instance instRTsNMk {σc σ σa σb σ' : Store} {s : AV} {ts : List Tm} [m : Mk σ σa σb σ'] [a : LeS σb σc] [h : RTsN σc σ s ts] : RTsN σc σ' s ts :=
  ⟨h.rep.mono (fun j o hj ho => m.keep j o (.inr (Nat.le_trans a.len hj)) ho) (fun _ h => h)⟩

theorem RTs.les {σ σ' : Store} {s : AV} {ts : List Tm} (h : RTs σ s ts) (g : LeS σ σ') : RTs σ' s ts := ⟨h.rep.mono (fun i o _ => g.keep i o) (fun _ _ => trivial)⟩
end Go.Proofs.YthbodgnoadlbcaaGreatDoor.Asl

/- Terms copied: every copy lies apart. -/
namespace Go.Proofs.YthbodgnoadlbcaaGreatDoor.Asl
open Go.RowKit
set_option linter.unusedVariables false
attribute [local irreducible] WP WL andThen inBlock noGoto atEnd ACall DA DL PO Hold actB inB nodeOk
set_option maxHeartbeats 4000000

/-- A list of terms lies in objects of its own, each reached once; F tells which. -/
inductive RepD (σ : Store) : (Nat → Prop) → AV → List Tm → Prop
  | nil {F : Nat → Prop} {a : Option Addr} {c : Nat} : RepD σ F (.lit (.slice a 0 c)) []
  | row {F : Nat → Prop} {id : Nat} {l : List AV} {ps : List Tm} (ss : List AV) (Fs : Nat → Nat → Prop) : F id → Has σ id ⟨.own, 3, l, []⟩ → l.length = ps.length * 3 → ps.length ≤ 4294967296 → ss.length = ps.length →
      (∀ k, k < ps.length → ∀ i, Fs k i → F i ∧ i ≠ id) → (∀ k k' i, k < ps.length → k' < ps.length → Fs k i → Fs k' i → k = k') →
      (∀ (k : Nat) (t : Tm) (s : AV), ps[k]? = some t → ss[k]? = some s → cutL l (k * 3) 3 = [I t.op, I t.n, s]) → (∀ (k : Nat) (t : Tm) (s : AV), ps[k]? = some t → ss[k]? = some s → RepD σ (Fs k) s t.ps) → RepD σ F (.sl id 0 ps.length) ps
theorem get_lt {α : Type} {l : List α} {k : Nat} {x : α} (h : l[k]? = some x) : k < l.length := by
  rcases Nat.lt_or_ge k l.length with h1 | h1
  · exact h1
  · rw [List.getElem?_eq_none h1] at h; cases h
theorem RepD.mono {σ σ' : Store} {F : Nat → Prop} {s : AV} {ps : List Tm} (h : RepD σ F s ps) : ∀ {F' : Nat → Prop}, (∀ (i : Nat) (o : Ob), F i → σ[i]? = some o → σ'[i]? = some o) → (∀ i, F i → F' i) → RepD σ' F' s ps := by
  induction h with
  | nil => intro F' _ _; exact .nil
  | row ss Fs h1 h2 h3 h4 h5 h6 h7 h8 h9 ih =>
    intro F' hk hF
    refine .row ss Fs (hF _ h1) ⟨hk _ _ h1 h2.get⟩ h3 h4 h5 (fun k hk' i hi => ⟨hF _ (h6 k hk' i hi).1, (h6 k hk' i hi).2⟩) h7 h8 fun k t s ht hs => ?_
    exact ih k t s ht hs (fun i o hi ho => hk i o (h6 k (get_lt ht) i hi).1 ho) (fun _ h => h)
theorem RepD.rep {σ : Store} {F : Nat → Prop} {s : AV} {ps : List Tm} (h : RepD σ F s ps) : RepTs σ F s ps := by
  have key : ∀ {F : Nat → Prop} {s : AV} {ps : List Tm}, RepD σ F s ps → ∀ {G : Nat → Prop}, (∀ i, F i → G i) → RepTs σ G s ps := by
    intro F s ps h
    induction h with
    | nil => intro G _; exact .nil
    | row ss Fs h1 h2 h3 h4 h5 h6 h7 h8 h9 ih =>
      intro G hG
      refine .row ss (hG _ h1) h2.get (.inr rfl) rfl h4 h5 (fun k t s ht hs => by rw [cut_cutL, Nat.zero_add]; exact h8 k t s ht hs) fun k t s ht hs => ?_
      exact ih k t s ht hs (fun i hi => hG _ (h6 k (get_lt ht) i hi).1)
  exact key h (fun _ h => h)
theorem RepD.lt {σ : Store} {F : Nat → Prop} {s : AV} {ps : List Tm} (h : RepD σ F s ps) : RepD σ (fun i => F i ∧ i < σ.length) s ps := by
  induction h with
  | nil => exact .nil
  | row ss Fs h1 h2 h3 h4 h5 h6 h7 h8 h9 ih =>
    exact .row ss (fun k i => Fs k i ∧ i < σ.length) ⟨h1, h2.lt⟩ h2 h3 h4 h5 (fun k hk i hi => ⟨⟨(h6 k hk i hi.1).1, hi.2⟩, (h6 k hk i hi.1).2⟩) (fun k k' i hk hk' a b => h7 k k' i hk hk' a.1 b.1) h8 ih

/-- A list of terms in objects that are new since a store, each reached once. -/
class RTsD (σ₀ : outParam Store) (σ : Store) (s : AV) (ps : outParam (List Tm)) : Prop where
  rep : RepD σ (fun i => σ₀.length ≤ i) s ps
theorem RTsD.new {σ₀ σ : Store} {s : AV} {ps : List Tm} (h : RTsD σ₀ σ s ps) : RTsN σ₀ σ s ps := ⟨h.rep.rep⟩
instance instRTsDGrow {σ₀ σ σ' : Store} {s : AV} {ps : List Tm} [g : Grow σ σ'] [h : RTsD σ₀ σ s ps] : RTsD σ₀ σ' s ps := ⟨h.rep.mono (fun i o _ => g.keep i o) (fun _ h => h)⟩
instance instRTsDUpd {σ₀ σ σ' : Store} {i : Nat} {o o' : Ob} {s : AV} {ps : List Tm} [g : Upd σ i o' σ'] [k : Has σ₀ i o] [h : RTsD σ₀ σ s ps] : RTsD σ₀ σ' s ps :=
  ⟨h.rep.mono (fun j o hj ho => by have := k.lt; rw [g.eq, List.getElem?_set_ne (by omega)]; exact ho) (fun _ h => h)⟩
instance instRTsDMk {σc σ σa σb σ' : Store} {s : AV} {ts : List Tm} [m : Mk σ σa σb σ'] [a : LeS σb σc] [h : RTsD σc σ s ts] : RTsD σc σ' s ts :=
  ⟨h.rep.mono (fun j o hj ho => m.keep j o (.inr (Nat.le_trans a.len hj)) ho) (fun _ h => h)⟩
instance instRTsD {σ₀ σ : Store} {s : AV} {ps : List Tm} [h : RTsD σ₀ σ s ps] : RTsN σ₀ σ s ps := h.new
theorem RTsD.down {σ σ₁ σ' : Store} {ps : List Tm} {s : AV} (h : RTsD σ₁ σ' s ps) (k : σ.length ≤ σ₁.length) : RTsD σ σ' s ps := ⟨h.rep.mono (fun _ _ _ h => h) (fun _ hi => Nat.le_trans k hi)⟩

def RetTmD (σ : Store) (t : Tm) : AV → Store → Prop := fun r σ' => ∃ s, r = .agg [I t.op, I t.n, s] ∧ RTsD σ σ' s t.ps ∧ Grow σ σ'
def RetTmsD (σ : Store) (ps : List Tm) : AV → Store → Prop := fun r σ' => RTsD σ σ' r ps ∧ Grow σ σ'
theorem ret_tmD {σ σ₁ σ' : Store} {op n : Int} {ps : List Tm} {s : AV} (h : RTsD σ₁ σ' s ps) (k : LeS σ σ₁) (g : LeS σ σ') : RetTmD σ (.node op n ps) (.agg [I op, I n, s]) σ' := ⟨s, rfl, h.down k.len, g.grow⟩
section
variable {E : Env} {ops : Array Oper} {l : List Oper} {Q : Exit → Slots → Store → Prop} {S : Slots} {σ : Store} {d : Option Tmp} {ty : TypeId} {pos : String} {af : Array Edge} {x y : Operand} {n0 fuel : Nat} {ds : List Nat} {listed : Array Bool}
theorem wc_callTD {args : Array Operand} {ats : Array TypeId} {f : FuncId} {rs caps : List AV} {t : Tm} (hf : S.ev x = some (.fn f caps)) (hc : Callable E.P f) (hargs : evs S args.toList = some rs)
    (h : ACall E.P E.base f (rs ++ caps) σ (fun _ => False) (RetTmD σ t)) (hd : okd E d = true) (k : ∀ s σ', One s → RTsD σ σ' s t.ps → Grow σ σ' → WL E ops l Q (S.put d (.agg [I t.op, I t.n, s])) σ') :
    WL E ops (⟨d, .call ⟨.value x, args, ats⟩, ty, pos, af, none⟩ :: l) Q S σ :=
  wc_call hf hc hargs h hd fun r' σ' h => by obtain ⟨s, e, hr, hg⟩ := h; subst e; exact k s σ' hr.new.rts.one hr hg
theorem wc_callTsD {args : Array Operand} {ats : Array TypeId} {f : FuncId} {rs caps : List AV} {ps : List Tm} (hf : S.ev x = some (.fn f caps)) (hc : Callable E.P f) (hargs : evs S args.toList = some rs)
    (h : ACall E.P E.base f (rs ++ caps) σ (fun _ => False) (RetTmsD σ ps)) (hd : okd E d = true) (k : ∀ s σ', One s → RTsD σ σ' s ps → Grow σ σ' → WL E ops l Q (S.put d s) σ') :
    WL E ops (⟨d, .call ⟨.value x, args, ats⟩, ty, pos, af, none⟩ :: l) Q S σ :=
  wc_call hf hc hargs h hd fun r' σ' h => by obtain ⟨hr, hg⟩ := h; exact k r' σ' hr.new.rts.one hr hg
end

theorem c_toTermD_of {base : Nat} {op n : Int} {ps : List Tm} (h : ∀ (σ : Store) (s : AV) [RTs σ s ps], ACall Tryz.prog base F_laws_toTermS [s] σ (fun _ => False) (RetTmsD σ ps))
    (σ : Store) (s : AV) [hs : RTs σ s ps] : ACall Tryz.prog base F_laws_toTerm [.agg [I op, I n, s]] σ (fun _ => False) (RetTmD σ (.node op n ps)) := by
  have := hs.one
  refine acall1 fun_laws_toTerm rfl tmps_laws_toTerm rfl fun N B w₀ ρ₀ => ?_
  repeat' (first
    | (refine wc_callTsD rfl inferInstance rfl (h _ _) rfl ?_; intro _ _ _ _ _)
    | exact ret_tmD inferInstance inferInstance inferInstance
    | refine wp_seqA ?_
    | refine wp_region_seq ?_
    | refine thru_seq_next ?_
    | refine wp_retA ?_
    | refine wl_nil ?_
    | refine wl_pop rfl (po_fieldAddr rfl inferInstance) ?_
    | refine wc_load1 rfl inferInstance (at_has (.inl rfl) rfl rfl) rfl ?_
    | refine wc_loadn rfl inferInstance (at_has (cs := [_, _, _]) (.inl rfl) rfl rfl) rfl ?_
    | (refine wc_storeA rfl rfl inferInstance inferInstance rfl inferInstance (Nat.le_of_ble_eq_true rfl) (.inr (may_new _)) ?_; intro _ _)
    | (refine wc_store1 rfl rfl inferInstance inferInstance inferInstance (Nat.le_of_ble_eq_true rfl) (.inr (may_new _)) ?_; intro _ _)
    | (refine wc_boxA rfl inferInstance rfl ?_; intro _ _ _ _ _)
    | (refine wc_allocA (cs := [_, _, _]) inferInstance rfl inferInstance rfl ?_; intro _ _ _ _ _)
    | refine at_ret (res_cell rfl rfl inferInstance (at_has (cs := [_, _, _]) (.inl rfl) rfl rfl)) ?_
    | fail)

theorem c_toTermSD_of {base : Nat} {ps : List Tm} (h : ∀ p ∈ ps, ∀ (σ : Store) (s : AV) [RTs σ s p.ps], ACall Tryz.prog base F_laws_toTerm [.agg [I p.op, I p.n, s]] σ (fun _ => False) (RetTmD σ p))
    (σ : Store) (s : AV) [hs : RTs σ s ps] : ACall Tryz.prog base F_laws_toTermS [s] σ (fun _ => False) (RetTmsD σ ps) := by
  have hb := hs.bound
  have := hs.one
  refine acall1 fun_laws_toTermS rfl tmps_laws_toTermS rfl fun N B w₀ ρ₀ => ?_
  repeat' (first
    | refine wp_seqA ?_
    | refine wp_region_seq ?_
    | refine thru_seq_next ?_
    | refine wp_blockA ?_
    | refine wl_nil ?_
    | refine wl_pop rfl (po_move rfl) ?_
    | refine wl_pop rfl (po_assign rfl) ?_
    | (refine wc_makeSlice rfl rfl Un.eq inferInstance rfl (by decide) (by decide) (by omega) (by omega) rfl ?_; intro _ _ _ _ _)
    | refine wl_pop rfl (pc_lenT rfl inferInstance inferInstance) ?_
    | fail)
  rename_i i σ₁ g1 n1 h1
  refine wc_loop [(0, s), (3, .sl i 0 ps.length)] (fun k : Nat => [(4, I k)]) (fun k σ' => k ≤ ps.length ∧ LeS σ σ' ∧ σ₁.length ≤ σ'.length ∧ ∃ (l : List AV) (ss : List AV) (lo hi : Nat → Nat), ss.length = k ∧ l.length = ps.length * 3 ∧ Has σ' i ⟨.own, 3, l, []⟩ ∧
    (∀ j, j < k → σ₁.length ≤ lo j ∧ hi j ≤ σ'.length) ∧ (∀ j j', j < j' → j' < k → hi j ≤ lo j') ∧
    ∀ (j : Nat) (t : Tm) (u : AV), ps[j]? = some t → ss[j]? = some u → cutL l (j * 3) 3 = [I t.op, I t.n, u] ∧ RepD σ' (fun x => lo j ≤ x ∧ x < hi j) u t.ps) (fun k => ps.length - k) 0 ⟨Nat.zero_le _, inferInstance, Nat.le_refl _, _, [], fun _ => 0, fun _ => 0, rfl, by simp, h1, by simp, by simp, by simp⟩ (sub_int rfl (by simp) (sub_cons rfl (sub_cons rfl sub_nil))) ?_
  rintro k σ' ⟨hk, hg, hlen, l, ss, lo, hi', hl, hl2, hi, hlo, hord, hss⟩
  have := hg.grow
  have hi1 := h1.lt
  have hi0 := n1.le
  repeat' (first
    | refine wp_seqA ?_
    | refine wp_region_seq ?_
    | refine thru_seq_next ?_
    | refine thru_seq ?_
    | refine exit_here ?_
    | refine wp_skipA ?_
    | refine wp_retA ?_
    | refine wp_exitA ?_
    | refine wp_blockA ?_
    | refine wl_nil ?_
    | refine wl_pop rfl (po_move rfl) ?_
    | refine wl_pop rfl (po_assign rfl) ?_
    | refine wl_pop rfl (po_binOp rfl rfl rfl) ?_
    | refine wp_condP rfl (fun _ => ?_) (fun _ => ?_)
    | refine wl_pop rfl (pc_lenT rfl inferInstance inferInstance) ?_
    | refine at_ret (res1 rfl rfl) ?_
    | fail)
  rotate_left
  · have hk2 : k = ps.length := by omega
    subst hk2
    refine ⟨⟨RepD.row ss (fun j x => lo j ≤ x ∧ x < hi' j) (may_new σ) hi hl2 hb hl ?_ ?_ (fun j t u ht hu => (hss j t u ht hu).1) fun j t u ht hu => (hss j t u ht hu).2⟩, hg.grow⟩
    · intro j hj x hx
      have := hlo j hj
      exact ⟨by omega, by omega⟩
    · intro j j' x hj hj' h1 h2
      rcases Nat.lt_trichotomy j j' with h | h | h
      · have := hord j j' h hj'; omega
      · exact h
      · have := hord j' j h hj; omega
  have hk' : k < ps.length := by omega
  obtain ⟨id, off, s', rfl, hat, hrs⟩ := (inferInstance : RTs σ' s ps).part hk'
  repeat' (first
    | (refine wc_callTD rfl inferInstance rfl (h _ (List.getElem_mem hk') _ _) rfl ?_; intro _ _ _ _ _)
    | (refine wc_storeA rfl rfl inferInstance inferInstance rfl inferInstance (by omega) (.inr (may_new _)) ?_; intro _ _)
    | refine wp_region_seq ?_
    | refine thru_seq_next ?_
    | refine thru_block_next ?_
    | refine wl_nil ?_
    | refine wl_pop rfl (po_move rfl) ?_
    | refine wl_pop rfl (po_assign rfl) ?_
    | refine wl_pop rfl (pc_add rfl rfl (by omega) (by omega)) ?_
    | refine wl_pop rfl (pc_indexAddr rfl rfl inferInstance inferInstance (by omega)) ?_
    | refine wc_loadn rfl inferInstance inferInstance rfl ?_
    | fail)
  rename_i u σ₂ o2 r2 g2 σ₃ u3
  have hl3 : σ₃.length = σ₂.length := u3.len
  have hl4 := g2.len
  refine ⟨k + 1, by omega, ⟨hk', inferInstance, by omega, _, ss ++ [u], fun j => if j = k then σ'.length else lo j, fun j => if j = k then σ₂.length else hi' j, by simp [hl], by rw [splice_length (by simp; omega)]; exact hl2, inferInstance, ?_, ?_, ?_⟩, sub_int rfl (by simp) (sub_cons rfl (sub_cons rfl sub_nil))⟩
  · intro j hj
    by_cases e : j = k
    · subst e; simp; omega
    · have := hlo j (by omega); simp only [if_neg e]; omega
  · intro j j' h1 h2
    by_cases e : j' = k
    · subst e; have := hlo j h1; simp only [if_neg (show j ≠ j' by omega), if_pos]; omega
    · simp only [if_neg e, if_neg (show j ≠ k by omega)]
      exact hord j j' h1 (by omega)
  intro j t v ht hv
  rw [Nat.zero_add]
  have hkeep : ∀ (x : Nat) (o : Ob), σ₁.length ≤ x → σ₂[x]? = some o → σ₃[x]? = some o := fun x o hx ho => by
    rw [u3.eq, List.getElem?_set_ne (by omega)]; exact ho
  rw [List.getElem?_append] at hv
  split at hv
  · rename_i hj
    obtain ⟨e1, e2⟩ := hss j t v ht hv
    have hlj := hlo j (by omega)
    refine ⟨by rw [cutL_splice_ne (by simp; omega) (.inl (by omega))]; exact e1, ?_⟩
    simp only [if_neg (show j ≠ k by omega)]
    exact e2.mono (fun x o hx ho => hkeep x o (by omega) (g2.keep x o ho)) (fun _ h => h)
  · rename_i hj
    have hj1 : j - ss.length = 0 := by
      rcases Nat.eq_zero_or_pos (j - ss.length) with h | h
      · exact h
      · rw [List.getElem?_eq_none (by simp; omega)] at hv; cases hv
    obtain rfl : j = k := by omega
    rw [hj1] at hv
    simp at hv
    subst hv
    rw [List.getElem?_eq_getElem hk'] at ht
    cases ht
    refine ⟨cutL_splice_eq (by simp; omega) rfl, ?_⟩
    simp only [if_true]
    exact r2.rep.lt.mono (fun x o hx ho => hkeep x o (by omega) ho) (fun _ h => h)
theorem c_toTermD {base : Nat} (t : Tm) : ∀ (σ : Store) (s : AV) [RTs σ s t.ps], ACall Tryz.prog base F_laws_toTerm [.agg [I t.op, I t.n, s]] σ (fun _ => False) (RetTmD σ t) :=
  Tm.ind (P := fun t => ∀ (σ : Store) (s : AV) [RTs σ s t.ps], ACall Tryz.prog base F_laws_toTerm [.agg [I t.op, I t.n, s]] σ (fun _ => False) (RetTmD σ t))
    (fun op n ps ih => c_toTermD_of (c_toTermSD_of ih)) t
end Go.Proofs.YthbodgnoadlbcaaGreatDoor.Asl

/- Terms marked. -/
namespace Go.Proofs.YthbodgnoadlbcaaGreatDoor.Asl
open Go.RowKit
set_option linter.unusedVariables false
attribute [local irreducible] WP WL andThen inBlock noGoto atEnd ACall DA DL PO Hold actB inB nodeOk
set_option maxHeartbeats 4000000

mutual
def Tm.mark (k : Int) : Tm → Tm | .node _ _ ps => .node k (k + 1) (Tm.marks (k + 2) ps)
def Tm.marks (k : Int) : List Tm → List Tm | [] => [] | p :: ps => p.mark k :: Tm.marks (k + 2 * (p.cnt : Int)) ps
end
/-- A footprint that is no greater than it must be. -/
theorem RepD.own {σ : Store} {F : Nat → Prop} {s : AV} {ps : List Tm} (h : RepD σ F s ps) : RepD σ (fun i => F i ∧ ∃ l, Has σ i ⟨.own, 3, l, []⟩) s ps := by
  induction h with
  | nil => exact .nil
  | row ss Fs h1 h2 h3 h4 h5 h6 h7 h8 h9 ih =>
    exact .row ss (fun k i => Fs k i ∧ ∃ l, Has σ i ⟨.own, 3, l, []⟩) ⟨h1, _, h2⟩ h2 h3 h4 h5 (fun k hk i hi => ⟨⟨(h6 k hk i hi.1).1, hi.2⟩, (h6 k hk i hi.1).2⟩) (fun k k' i hk hk' a b => h7 k k' i hk hk' a.1 b.1) h8 ih
theorem RepD.one {σ : Store} {F : Nat → Prop} {s : AV} {ps : List Tm} (h : RepD σ F s ps) : One s := by cases h <;> exact ⟨rfl⟩
theorem RepD.bound {σ : Store} {F : Nat → Prop} {s : AV} {ps : List Tm} (h : RepD σ F s ps) : ps.length ≤ 4294967296 := by cases h <;> simp_all

/-- What marking leaves: the marks, and all else as it was. -/
def RetMark (σ : Store) (F : Nat → Prop) (s : AV) (a : Int) (ps : List Tm) : AV → Store → Prop := fun r σ' => r = I (a + 2 * (Tm.cnts ps : Int)) ∧ RepD σ' F s (Tm.marks a ps) ∧ (∀ i, F i → ∃ l, Has σ' i ⟨.own, 3, l, []⟩) ∧ ∀ (j : Nat) (o : Ob), ¬ F j → σ[j]? = some o → σ'[j]? = some o

end Go.Proofs.YthbodgnoadlbcaaGreatDoor.Asl

/- A term marked. -/
namespace Go.Proofs.YthbodgnoadlbcaaGreatDoor.Asl
open Go.RowKit
set_option linter.unusedVariables false
attribute [local irreducible] WP WL andThen inBlock noGoto atEnd ACall DA DL PO Hold actB inB nodeOk
set_option maxHeartbeats 4000000

section
variable {base : Nat}
theorem c_toTermL {t : Tm} {s : AV} {σ₀ : Store} (hs : RTs σ₀ s t.ps) (σ : Store) [g : LeS σ₀ σ] : ACall Tryz.prog base F_laws_toTerm [.agg [I t.op, I t.n, s]] σ (fun _ => False) (RetTmD σ t) :=
  have := hs.les g
  c_toTermD t σ s
theorem c_eqTerm_self (t : Tm) (σ : Store) (s s' : AV) [RTs σ s t.ps] [RTs σ s' t.ps] : ACall Tryz.prog base F_laws_eqTerm [.agg [I t.op, I t.n, s], .agg [I t.op, I t.n, s']] σ (fun _ => False) (Ret σ (Bo true)) := by
  have := c_eqTerm (base := base) t t σ s s'
  rwa [eqB_self] at this
end
end Go.Proofs.YthbodgnoadlbcaaGreatDoor.Asl

/- Names exchanged: numbers. -/
namespace Go.Proofs.YthbodgnoadlbcaaGreatDoor.Asl
open Go.RowKit
set_option linter.unusedVariables false
attribute [local irreducible] WP WL andThen inBlock noGoto atEnd ACall DA DL PO Hold actB inB nodeOk
set_option maxHeartbeats 4000000

def swN (k a b : Int) : Int := if k = a then b else if k = b then a else k
def swA (x a b : Int) : Int := if 0 < x then swN (x - 1) a b + 1 else if x < 0 then -(swN (-x - 1) a b) - 1 else x
end Go.Proofs.YthbodgnoadlbcaaGreatDoor.Asl

/- Lists of terms that are made by append. -/
namespace Go.Proofs.YthbodgnoadlbcaaGreatDoor.Asl
open Go.RowKit
set_option linter.unusedVariables false
attribute [local irreducible] WP WL andThen inBlock noGoto atEnd ACall DA DL PO Hold actB inB nodeOk
set_option maxHeartbeats 4000000

end Go.Proofs.YthbodgnoadlbcaaGreatDoor.Asl
