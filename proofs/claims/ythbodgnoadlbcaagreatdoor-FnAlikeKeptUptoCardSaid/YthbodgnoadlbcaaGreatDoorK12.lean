/- Several texts in one. -/
import Derived.Test.YthbodgnoadlbcaaGreatDoorH2
import Derived.Test.YthbodgnoadlbcaaGreatDoorS5
import Derived.Test.YthbodgnoadlbcaaGreatDoorK4
import Derived.Test.YthbodgnoadlbcaaGreatDoorDD
import Derived.Test.YthbodgnoadlbcaaGreatDoorBB
import Derived.Test.YthbodgnoadlbcaaGreatDoorK11
import Derived.Test.YthbodgnoadlbcaaGreatDoorG6
import Derived.Test.YthbodgnoadlbcaaGreatDoorG7
import Derived.Test.YthbodgnoadlbcaaGreatDoorG26
import Derived.Test.YthbodgnoadlbcaaGreatDoorB9
/- Likeness of terms: what it has to do with that of graphs; it stays whatever is put around. -/
namespace Go.Proofs.YthbodgnoadlbcaaGreatDoor.Asl
set_option linter.unusedVariables false
set_option linter.unusedSimpArgs false
set_option maxHeartbeats 4000000
def TBis (ds : List Tm) (R : Tm → Tm → Prop) : Prop := ∀ t u, R t u → (∀ x ∈ t.steps ds, ∃ y ∈ u.steps ds, y.1 = x.1 ∧ R x.2 y.2) ∧ (∀ y ∈ u.steps ds, ∃ x ∈ t.steps ds, x.1 = y.1 ∧ R x.2 y.2)
def Alk (ds : List Tm) (t u : Tm) : Prop := ∃ R, TBis ds R ∧ R t u
theorem Alk.refl (ds : List Tm) (t : Tm) : Alk ds t t := ⟨Eq, by rintro t _ rfl; exact ⟨fun x hx => ⟨x, hx, rfl, rfl⟩, fun x hx => ⟨x, hx, rfl, rfl⟩⟩, rfl⟩
theorem Alk.symm {ds : List Tm} {t u : Tm} (h : Alk ds t u) : Alk ds u t := by
  obtain ⟨R, h, k⟩ := h
  exact ⟨fun a b => R b a, fun a b r => ⟨fun x hx => (h b a r).2 x hx, fun y hy => (h b a r).1 y hy⟩, k⟩
theorem bis_term {ds : List Tm} {t u : Tm} {S S' : List Tm} {a b : Gr} (ha : GrP ds t S a) (hla : a.length = S.length) (hb : GrP ds u S' b) (hlb : b.length = S'.length) : (∃ R, Bis2 a b R ∧ R 0 0) ↔ Alk ds t u := by
  have lt : ∀ {S : List Tm} {k : Nat} {u : Tm}, S[k]? = some u → k < S.length ∧ S.getD k nilT = u := by
    intro S k u h
    rcases Nat.lt_or_ge k S.length with hk | hk
    · exact ⟨hk, by rw [List.getD_eq_getElem?_getD, h]; rfl⟩
    · rw [List.getElem?_eq_none hk] at h; cases h
  constructor
  · rintro ⟨R, h, k⟩
    refine ⟨fun x y => ∃ i j, R i j ∧ S[i]? = some x ∧ S'[j]? = some y, ?_, 0, 0, k, ha.head, hb.head⟩
    rintro x y ⟨i, j, r, e1, e2⟩
    obtain ⟨⟨hi, hj⟩, h1, h2⟩ := h i j r
    have g1 := (lt e1).2
    have g2 := (lt e2).2
    constructor
    · intro s hs
      obtain ⟨m, c1, c2, c3⟩ := ha.bwd i hi s (by rw [g1]; exact hs)
      obtain ⟨k, d1, d2, d3⟩ := h1 m c1
      obtain ⟨_, y', f1, f2, f3⟩ := hb.fwd j hj k d1
      rw [g2] at f1
      exact ⟨y', f1, by omega, _, _, d3, c3, f3⟩
    · intro s hs
      obtain ⟨k, c1, c2, c3⟩ := hb.bwd j hj s (by rw [g2]; exact hs)
      obtain ⟨m, d1, d2, d3⟩ := h2 k c1
      obtain ⟨_, y', f1, f2, f3⟩ := ha.fwd i hi m d1
      rw [g1] at f1
      exact ⟨y', f1, by omega, _, _, d3, f3, c3⟩
  · rintro ⟨R, h, k⟩
    refine ⟨fun i j => (i < a.length ∧ j < b.length) ∧ ∃ x y, R x y ∧ S[i]? = some x ∧ S'[j]? = some y, ?_, ?_⟩
    · rintro i j ⟨⟨hi, hj⟩, x, y, r, e1, e2⟩
      obtain ⟨h1, h2⟩ := h x y r
      have g1 := (lt e1).2
      have g2 := (lt e2).2
      refine ⟨⟨hi, hj⟩, fun m hm => ?_, fun k hk => ?_⟩
      · obtain ⟨_, s, c1, c2, c3⟩ := ha.fwd i hi m hm
        rw [g1] at c1
        obtain ⟨s', d1, d2, d3⟩ := h1 s c1
        obtain ⟨k, f1, f2, f3⟩ := hb.bwd j hj s' (by rw [g2]; exact d1)
        exact ⟨k, f1, by omega, ⟨by have := (lt c3).1; omega, by have := (lt f3).1; omega⟩, _, _, d3, c3, f3⟩
      · obtain ⟨_, s, c1, c2, c3⟩ := hb.fwd j hj k hk
        rw [g2] at c1
        obtain ⟨s', d1, d2, d3⟩ := h2 s c1
        obtain ⟨m, f1, f2, f3⟩ := ha.bwd i hi s' (by rw [g1]; exact d1)
        exact ⟨m, f1, by omega, ⟨by have := (lt f3).1; omega, by have := (lt c3).1; omega⟩, _, _, d3, f3, c3⟩
    · exact ⟨⟨by have := (lt ha.head).1; omega, by have := (lt hb.head).1; omega⟩, t, u, k, ha.head, hb.head⟩
theorem alk_class {ds : List Tm} {t u : Tm} {a b : Gr} (ha : graphO ds t = some a) (hb : graphO ds u = some b) (h60 : a.length + b.length ≤ 60) : (lastC (bothL a b)).getD 0 0 = (lastC (bothL a b)).getD a.length 0 ↔ Alk ds t u := by
  obtain ⟨S, h1, h2, hd, _⟩ := graphO_spec ha
  obtain ⟨S', k1, k2, _, _⟩ := graphO_spec hb
  have ga := h1.gok hd h2
  have gb := k1.gok hd k2
  have := both_iff ga gb h60 ga.pos gb.pos
  rw [Nat.add_zero] at this
  rw [this, bis_term h1 h2 k1 k2]
theorem steps_act (ds : List Tm) (n : Int) (p : Tm) : (Tm.node 1 n [p]).steps ds = [(n, p)] := by simp [Tm.steps, Tm.st, stF]
theorem steps_sum (ds : List Tm) (p q : Tm) : (Tm.node 2 0 [p, q]).steps ds = p.steps ds ++ q.steps ds := by simp [Tm.steps, Tm.st, stF, Tm.sts]
theorem steps_par (ds : List Tm) (p q : Tm) : (parT p q).steps ds = parL p q (p.steps ds) (q.steps ds) := by simp [Tm.steps, parT, Tm.st, stF, Tm.sts]
theorem steps_hide (ds : List Tm) (n : Int) (p : Tm) : (hideT n p).steps ds = hideL n (p.steps ds) := by simp [Tm.steps, hideT, Tm.st, stF, Tm.sts]
theorem Alk.act {ds : List Tm} {t u : Tm} (h : Alk ds t u) (n : Int) : Alk ds (.node 1 n [t]) (.node 1 n [u]) := by
  obtain ⟨R, h, k⟩ := h
  refine ⟨fun x y => R x y ∨ (x = .node 1 n [t] ∧ y = .node 1 n [u]), ?_, .inr ⟨rfl, rfl⟩⟩
  rintro x y (r | ⟨rfl, rfl⟩)
  · obtain ⟨h1, h2⟩ := h x y r
    exact ⟨fun s hs => by obtain ⟨y, a, b, c⟩ := h1 s hs; exact ⟨y, a, b, .inl c⟩, fun s hs => by obtain ⟨y, a, b, c⟩ := h2 s hs; exact ⟨y, a, b, .inl c⟩⟩
  · rw [steps_act, steps_act]
    constructor <;> intro s hs <;> simp only [List.mem_singleton] at hs <;> subst hs
    · exact ⟨(n, u), List.mem_singleton.mpr rfl, rfl, .inl k⟩
    · exact ⟨(n, t), List.mem_singleton.mpr rfl, rfl, .inl k⟩
theorem Alk.hide {ds : List Tm} {t u : Tm} (h : Alk ds t u) (n : Int) : Alk ds (hideT n t) (hideT n u) := by
  obtain ⟨R, h, k⟩ := h
  refine ⟨fun x y => ∃ p q, x = hideT n p ∧ y = hideT n q ∧ R p q, ?_, t, u, rfl, rfl, k⟩
  rintro _ _ ⟨p, q, rfl, rfl, r⟩
  obtain ⟨h1, h2⟩ := h p q r
  rw [steps_hide, steps_hide]
  unfold hideL
  constructor
  · intro s hs
    simp only [List.mem_map, List.mem_filter] at hs
    obtain ⟨x, ⟨hx, hp⟩, rfl⟩ := hs
    obtain ⟨y, a, b, c⟩ := h1 x hx
    refine ⟨(y.1, hideT n y.2), ?_, b, _, _, rfl, rfl, c⟩
    simp only [List.mem_map, List.mem_filter]
    exact ⟨y, ⟨a, by unfold hidP at *; rw [b]; exact hp⟩, rfl⟩
  · intro s hs
    simp only [List.mem_map, List.mem_filter] at hs
    obtain ⟨x, ⟨hx, hp⟩, rfl⟩ := hs
    obtain ⟨y, a, b, c⟩ := h2 x hx
    refine ⟨(y.1, hideT n y.2), ?_, b, _, _, rfl, rfl, c⟩
    simp only [List.mem_map, List.mem_filter]
    exact ⟨y, ⟨a, by unfold hidP at *; rw [b]; exact hp⟩, rfl⟩
theorem Alk.sum {ds : List Tm} {t u : Tm} (h : Alk ds t u) (z : Tm) : Alk ds (.node 2 0 [t, z]) (.node 2 0 [u, z]) := by
  obtain ⟨R, h, k⟩ := h
  refine ⟨fun x y => R x y ∨ x = y ∨ (x = .node 2 0 [t, z] ∧ y = .node 2 0 [u, z]), ?_, .inr (.inr ⟨rfl, rfl⟩)⟩
  rintro x y (r | rfl | ⟨rfl, rfl⟩)
  · obtain ⟨h1, h2⟩ := h x y r
    exact ⟨fun s hs => by obtain ⟨y, a, b, c⟩ := h1 s hs; exact ⟨y, a, b, .inl c⟩, fun s hs => by obtain ⟨y, a, b, c⟩ := h2 s hs; exact ⟨y, a, b, .inl c⟩⟩
  · exact ⟨fun s hs => ⟨s, hs, rfl, .inr (.inl rfl)⟩, fun s hs => ⟨s, hs, rfl, .inr (.inl rfl)⟩⟩
  · obtain ⟨h1, h2⟩ := h t u k
    rw [steps_sum, steps_sum]
    constructor
    · intro s hs
      rcases List.mem_append.mp hs with hs | hs
      · obtain ⟨y, a, b, c⟩ := h1 s hs
        exact ⟨y, List.mem_append_left _ a, b, .inl c⟩
      · exact ⟨s, List.mem_append_right _ hs, rfl, .inr (.inl rfl)⟩
    · intro s hs
      rcases List.mem_append.mp hs with hs | hs
      · obtain ⟨y, a, b, c⟩ := h2 s hs
        exact ⟨y, List.mem_append_left _ a, b, .inl c⟩
      · exact ⟨s, List.mem_append_right _ hs, rfl, .inr (.inl rfl)⟩
theorem Alk.par {ds : List Tm} {t u : Tm} (h : Alk ds t u) (z : Tm) : Alk ds (parT t z) (parT u z) := by
  obtain ⟨R, h, k⟩ := h
  refine ⟨fun x y => ∃ p q z, x = parT p z ∧ y = parT q z ∧ R p q, ?_, t, u, z, rfl, rfl, k⟩
  rintro _ _ ⟨p, q, z, rfl, rfl, r⟩
  obtain ⟨h1, h2⟩ := h p q r
  rw [steps_par, steps_par]
  unfold parL meetsL
  constructor
  · intro s hs
    simp only [List.mem_append, List.mem_map, List.mem_flatMap, List.mem_filter] at hs ⊢
    rcases hs with (⟨x, hx, rfl⟩ | ⟨x, hx, rfl⟩) | ⟨x, hx, y, ⟨hy, hc⟩, rfl⟩
    · obtain ⟨y, a, b, c⟩ := h1 x hx
      exact ⟨(y.1, parT y.2 z), .inl (.inl ⟨y, a, rfl⟩), b, _, _, _, rfl, rfl, c⟩
    · exact ⟨(x.1, parT q x.2), .inl (.inr ⟨x, hx, rfl⟩), rfl, _, _, _, rfl, rfl, r⟩
    · obtain ⟨x', a, b, c⟩ := h1 x hx
      exact ⟨(0, parT x'.2 y.2), .inr ⟨x', a, y, ⟨hy, by rw [b]; exact hc⟩, rfl⟩, rfl, _, _, _, rfl, rfl, c⟩
  · intro s hs
    simp only [List.mem_append, List.mem_map, List.mem_flatMap, List.mem_filter] at hs ⊢
    rcases hs with (⟨x, hx, rfl⟩ | ⟨x, hx, rfl⟩) | ⟨x, hx, y, ⟨hy, hc⟩, rfl⟩
    · obtain ⟨y, a, b, c⟩ := h2 x hx
      exact ⟨(y.1, parT y.2 z), .inl (.inl ⟨y, a, rfl⟩), b, _, _, _, rfl, rfl, c⟩
    · exact ⟨(x.1, parT p x.2), .inl (.inr ⟨x, hx, rfl⟩), rfl, _, _, _, rfl, rfl, r⟩
    · obtain ⟨x', a, b, c⟩ := h2 x hx
      exact ⟨(0, parT x'.2 y.2), .inr ⟨x', a, y, ⟨hy, by rw [b]; exact hc⟩, rfl⟩, rfl, _, _, _, rfl, rfl, c⟩
end Go.Proofs.YthbodgnoadlbcaaGreatDoor.Asl

/- Several texts in one. -/
/- Classes and rounds of a graph: the program. -/
namespace Go.Proofs.YthbodgnoadlbcaaGreatDoor.Asl
open Go.RowKit Go.Proofs.YthbodgnoadlbcaaGreatDoorW.PrintLast
set_option linter.unusedVariables false
set_option linter.unusedSimpArgs false
attribute [local irreducible] WP WL andThen inBlock noGoto atEnd ACall DA DL PO Hold
set_option maxHeartbeats 4000000
set_option synthInstance.maxHeartbeats 400000
set_option synthInstance.maxSize 10000
section
variable {base : Nat}
theorem c_alikeRounds (σ : Store) (u : AV) {ss : List AV} {g : Gr} [hs : RW σ u ss] [hg : RRs σ ss g] (hok : GOk g) (hlim : ∀ k, (g.getD k []).length < 4294967296) :
    ACall Tryz.prog base F_impl_alikeRounds [.agg [u]] σ (fun _ => False) (RetORs σ (roundsL g)) := by
  have hb := hs.bound
  have := hs.one
  have hl := hg.len
  have h60 := hok.most
  refine acall1 fun_impl_alikeRounds rfl tmps_impl_alikeRounds rfl fun N B w₀ ρ₀ => ?_
  repeat' (first
    | refine wl_pop rfl (pc_lenRow rfl inI inI) ?_
    | refine wp_seqA ?_
    | refine wp_region_seq ?_
    | refine thru_seq_next ?_
    | refine wl_nil ?_
    | refine wl_pop rfl (po_assign rfl) ?_
    | refine wl_pop rfl (po_fieldAddr rfl inI) ?_
    | refine wc_load1 rfl inI (at_has (.inl rfl) rfl rfl) rfl ?_
    | refine wl_pop rfl (po_makeFunc rfl rfl) ?_
    | (refine wc_boxA rfl inI rfl ?_; intro _ _ _ _ _)
    | fail)
  rename_i i1 σ1 g1 n1 h1
  have hr : ACall Tryz.prog base F_impl_rounds ([I (ss.length : Int), .fn F_impl_alikeRounds_1 [.pt i1 0]] ++ []) σ1 (fun _ => False) (RetORs σ1 (roundsL g)) := by
    rw [hl]
    refine c_rounds σ1 F_impl_alikeRounds_1 [.pt i1 0] h60 (fun σ' => Has σ' i1 ⟨.own, 1, [u], []⟩ ∧ RW σ' u ss ∧ RRs σ' ss g) (fun a b l k => ⟨⟨l.keep _ _ k.1.get⟩, k.2.1.les l, k.2.2.les l⟩) ⟨h1, inI, inI⟩ ?_
    intro v c s σ' hc hs' hj hv
    exact c_alikeRounds_1 σ' v u s i1 hj.1 hj.2.1 hj.2.2 hv hok hc hs' hlim
  repeat' (first
    | (refine wc_callORs rfl inI rfl hr rfl ?_; intro _ _ _ _ _ _ _)
    | refine thru_seq_next ?_
    | refine wp_retA ?_
    | refine wl_nil ?_
    | refine wl_pop rfl (po_assign rfl) ?_
    | refine at_ret (res1 rfl rfl) ?_
    | fail)
  rename_i v us σ2 ov wv rv gv
  exact ⟨us, wv.down (LeS.len inI), rv.down (LeS.len inI), (inI : LeS σ σ2).grow⟩
theorem c_alikeClasses (σ : Store) (u : AV) {ss : List AV} {g : Gr} [hs : RW σ u ss] [hg : RRs σ ss g] (hok : GOk g) (hlim : ∀ k, (g.getD k []).length < 4294967296) :
    ACall Tryz.prog base F_impl_alikeClasses [.agg [u]] σ (fun _ => False) (RetOW σ (lastC g)) := by
  have hb := hs.bound
  have := hs.one
  have h60 := hok.most
  have hpos := hok.pos
  have hll := lastC_len g
  refine acall1 fun_impl_alikeClasses rfl tmps_impl_alikeClasses rfl fun N B w₀ ρ₀ => ?_
  repeat' (first
    | (refine wc_callORs rfl inI rfl (c_alikeRounds _ _ hok hlim) rfl ?_; intro _ _ _ _ _ _ _)
    | refine wc_holdR 2 ?_
    | refine wc_loadn rfl inI (at_has (cs := [_]) (.inl rfl) rfl rfl) rfl ?_
    | refine wp_seqA ?_
    | refine wp_region_seq ?_
    | refine thru_seq_next ?_
    | refine wl_nil ?_
    | refine wl_pop rfl (po_assign rfl) ?_
    | (refine wc_boxA rfl inI rfl ?_; intro _ _ _ _ _)
    | fail)
  rename_i i1 σ1 g1 n1 h1 v us σ2 ov wv rv gv
  refine hold_go ?_
  have hul := rv.len
  have hne : 0 < us.length := by rw [hul]; exact List.length_pos_iff.mpr (roundsL_ne g)
  have hlast : OW σ1 σ2 (us.getD ((us.length : Int) - 1).toNat nilS) (lastC g) := by
    rw [show ((us.length : Int) - 1).toNat = us.length - 1 by omega, ← roundsL_last, ← hul]
    exact rv.row _
  have := hlast.one
  have hb2 := wv.bound
  repeat' (first
    | refine wl_pop rfl (pc_indexRowZ rfl rfl inI inI wv.rw (by omega) (by omega)) ?_
    | (refine wc_callOW rfl inI rfl (c_Clone _ _ (hs := hlast.rw) (fun e => by rw [e] at hll; simp at hll; omega) (by omega)) rfl ?_; intro _ _ _ _ _)
    | refine wl_pop rfl (pc_ldAV rfl inI inI (by omega) inI) ?_
    | refine wl_pop rfl (pc_lenRow rfl inI inI) ?_
    | refine wp_region_seq ?_
    | refine thru_seq_next ?_
    | refine wp_retA ?_
    | refine wl_nil ?_
    | refine wl_pop rfl (po_move rfl) ?_
    | refine wl_pop rfl (po_assign rfl) ?_
    | refine wl_pop rfl (pc_sub rfl rfl (by omega) (by omega)) ?_
    | refine at_ret (res1 rfl rfl) ?_
    | fail)
  exact ret_ow (by assumption) (inI : LeS σ σ2) inI rfl
end
end Go.Proofs.YthbodgnoadlbcaaGreatDoor.Asl

/- Several texts in one. -/
/- The reader: a graph. -/
namespace Go.Proofs.YthbodgnoadlbcaaGreatDoor.Asl
open Go.RowKit Go.Proofs.YthbodgnoadlbcaaGreatDoorW.PrintLast
set_option linter.unusedVariables false
set_option linter.unusedSimpArgs false
attribute [local irreducible] WP WL andThen inBlock noGoto atEnd ACall DA DL DX PO Hold nodeOk Tm.shape Tm.ok Tm.txt
set_option maxHeartbeats 4000000
set_option synthInstance.maxHeartbeats 400000
set_option synthInstance.maxSize 10000
theorem insM_len (m : Mv) (l : List Mv) : (insM m l).length ≤ l.length + 1 := by
  induction l with
  | nil => simp [insM]
  | cons x l ih =>
    unfold insM
    repeat' split
    all_goals simp
    all_goals omega
theorem tidyL_lenK (l : List Mv) : (tidyL l).length ≤ l.length := by
  have key : ∀ (l acc : List Mv), (l.foldl (fun out m => insM m out) acc).length ≤ acc.length + l.length := by
    intro l
    induction l with
    | nil => intro acc; simp
    | cons x l ih =>
      intro acc
      have h1 := ih (insM x acc)
      have h2 := insM_len x acc
      simp only [List.foldl_cons, List.length_cons]
      omega
  have := key l []
  simp only [List.length_nil, Nat.zero_add] at this
  exact this
class NG (σ : outParam Store) (σ' : Store) (u : AV) (us : outParam (List AV)) (g : outParam Gr) : Prop where
  to : ∀ σ'' : Store, (∀ (j : Nat) (o : Ob), σ.length ≤ j → σ'[j]? = some o → σ''[j]? = some o) → RW σ'' u us ∧ RRs σ'' us g
theorem NG.of {σ σ7 σ' : Store} {u : AV} {us : List AV} {g : Gr} (h : OW σ7 σ' u us) (k : ORs σ7 σ' us g) (hl : σ.length ≤ σ7.length) : NG σ σ' u us g :=
  ⟨fun σ'' kk => ⟨(h.keep fun j o hj _ ho => kk j o (by omega) ho).rw, (k.keep fun j o hj _ ho => kk j o (by omega) ho).rrs⟩⟩
theorem NG.nil (σ σ' : Store) : NG σ σ' nilS [] [] := ⟨fun _ _ => ⟨.nil _ _ _, ⟨rfl, fun j => by simpa using RW.nil _ _ _⟩⟩⟩
theorem NG.keep {σ σ' σ2 : Store} {u : AV} {us : List AV} {g : Gr} (h : NG σ σ' u us g) (k : ∀ (j : Nat) (o : Ob), σ.length ≤ j → σ'[j]? = some o → σ2[j]? = some o) : NG σ σ2 u us g :=
  ⟨fun σ'' kk => h.to σ'' fun j o hj ho => kk j o hj (k j o hj ho)⟩
theorem NG.down {σ σ1 σ' : Store} {u : AV} {us : List AV} {g : Gr} (h : NG σ1 σ' u us g) (hl : σ.length ≤ σ1.length) : NG σ σ' u us g :=
  ⟨fun σ'' kk => h.to σ'' fun j o hj ho => kk j o (by omega) ho⟩
instance instNGGrow {σ σ' σ2 : Store} {u : AV} {us : List AV} {g : Gr} [gr : Grow σ' σ2] [h : NG σ σ' u us g] : NG σ σ2 u us g := h.keep fun j o _ ho => gr.keep j o ho
instance instNGUpd {σ σ' σ2 : Store} {i : Nat} {o o' : Ob} {u : AV} {us : List AV} {g : Gr} [gr : Upd σ' i o' σ2] [k : Has σ i o] [h : NG σ σ' u us g] : NG σ σ2 u us g :=
  h.keep fun j o hj ho => by have := k.lt; rw [gr.eq, List.getElem?_set_ne (by omega)]; exact ho
instance instNGRW {σ σ' : Store} {u : AV} {us : List AV} {g : Gr} [h : NG σ σ' u us g] : RW σ' u us := (h.to σ' fun _ _ _ ho => ho).1
theorem NG.rrs {σ σ' : Store} {u : AV} {us : List AV} {g : Gr} (h : NG σ σ' u us g) : RRs σ' us g := (h.to σ' fun _ _ _ ho => ho).2
def QG (σ : Store) : AV → Store → Prop := fun r σ' => ∃ (u : AV) (us : List AV) (g : Gr), r = .agg [u] ∧ NG σ σ' u us g ∧ ∀ l ∈ g, l.length ≤ 331776
end Go.Proofs.YthbodgnoadlbcaaGreatDoor.Asl

/- Several texts in one. -/
/- The reader: a graph, often of a term. -/
namespace Go.Proofs.YthbodgnoadlbcaaGreatDoor.Asl
open Go.RowKit Go.Proofs.YthbodgnoadlbcaaGreatDoorW.PrintLast
set_option linter.unusedVariables false
set_option linter.unusedSimpArgs false
attribute [local irreducible] WP WL andThen inBlock noGoto atEnd ACall DA DL DX PO Hold nodeOk Tm.shape Tm.ok Tm.txt graphO
set_option maxHeartbeats 4000000
set_option synthInstance.maxHeartbeats 400000
set_option synthInstance.maxSize 10000
theorem growN_bnd {ds : List Tm} (hd : defsOk ds = true) : ∀ (n : Nat) (x : List Tm × Gr) (g : Gr), StOk ds x.1 → (∀ l ∈ x.2, l.length ≤ 331776) → growN ds n x = some g → ∀ l ∈ g, l.length ≤ 331776 := by
  intro n
  induction n with
  | zero => intro x g _ hx e; simp only [growN, Option.some.injEq] at e; subst e; exact hx
  | succ n ih =>
    intro x g hs hx e
    unfold growN at e
    split at e
    · rename_i hlt
      cases h1 : grow1 ds x with
      | none => rw [h1] at e; cases e
      | some y =>
        rw [h1] at e
        have e' : growN ds n y = some g := e
        unfold grow1 at h1
        cases h2 : lookL x.1 ((x.1.getD x.2.length nilT).steps ds) with
        | none => rw [h2] at h1; cases h1
        | some z =>
          rw [h2] at h1
          simp only [Option.map_some, Option.some.injEq] at h1
          subst h1
          have hu : x.1.getD x.2.length nilT ∈ x.1 := by simp [List.getD_eq_getElem?_getD, hlt]
          obtain ⟨a1, a2, a3⟩ := hs.ok _ hu
          obtain ⟨b1, b2, b3⟩ := lookL_ok (c := 576) hs (Tm.steps_ok hd a1 a2 a3) h2
          refine ih _ g b1 ?_ e'
          intro l hl
          rcases List.mem_append.mp hl with hl | hl
          · exact hx l hl
          · simp only [List.mem_singleton] at hl
            subst hl
            have := tidyL_lenK z.2
            have := Tm.steps_len hd a3
            omega
    · simp only [Option.some.injEq] at e; subst e; exact hx
theorem graphO_bnd {ds : List Tm} {t : Tm} : ∀ l ∈ (graphO ds t).getD [], l.length ≤ 331776 := by
  unfold graphO
  split
  · rename_i h
    simp only [Bool.and_eq_true] at h
    obtain ⟨a1, a2, a3⟩ := fits_get h.2
    cases e : graphL ds t with
    | none => simp
    | some g =>
      intro l hl
      exact growN_bnd h.1 61 ([t], []) g ⟨by simp only [List.mem_singleton, forall_eq]; exact ⟨a1, a2, a3⟩, by simp⟩ (by simp) e l (by simpa using hl)
  · simp
section
variable {base : Nat}
def RetG1 (σ : Store) : AV → Store → Prop := fun r σ' => ∃ (u : AV) (us : List AV) (g : Gr), r = .agg [u] ∧ NG σ σ' u us g ∧ (∀ l ∈ g, l.length ≤ 331776) ∧ Grow σ σ'
end
end Go.Proofs.YthbodgnoadlbcaaGreatDoor.Asl

/- Two terms' graphs put together; whether they are alike: the program's way and the judge's. -/
namespace Go.Proofs.YthbodgnoadlbcaaGreatDoor.Asl
open Go.RowKit Go.Proofs.YthbodgnoadlbcaaGreatDoorW.PrintLast
set_option linter.unusedVariables false
set_option linter.unusedSimpArgs false
attribute [local irreducible] WP WL andThen inBlock noGoto atEnd ACall DA DL DX PO Hold nodeOk Tm.shape Tm.ok Tm.txt graphO
set_option maxHeartbeats 4000000
set_option synthInstance.maxHeartbeats 400000
set_option synthInstance.maxSize 10000
noncomputable def pairO (ds : List Tm) (t u : Tm) : Option (Gr × Nat) := (graphO ds t).bind fun a => (graphO ds u).bind fun b => if a.length + b.length ≤ 60 then some (bothL a b, a.length) else none
noncomputable def alkO (ds : List Tm) (t u : Tm) : Option Bool := (pairO ds t u).map fun x => decide ((lastC x.1).getD 0 0 = (lastC x.1).getD x.2 0)
theorem pairO_none1 {ds : List Tm} {t u : Tm} (h : graphO ds t = none) : pairO ds t u = none := by simp [pairO, h]
theorem pairO_none2 {ds : List Tm} {t u : Tm} (h : graphO ds u = none) : pairO ds t u = none := by simp [pairO, h]
theorem pairO_both {ds : List Tm} {t u : Tm} {a b : Gr} (h1 : graphO ds t = some a) (h2 : graphO ds u = some b) : pairO ds t u = if a.length + b.length ≤ 60 then some (bothL a b, a.length) else none := by simp [pairO, h1, h2]
theorem graphO_gok {ds : List Tm} {t : Tm} {a : Gr} (h : graphO ds t = some a) : GOk a := by
  obtain ⟨S, hP, hl, hd, _⟩ := graphO_spec h
  exact hP.gok hd hl
theorem pairO_some {ds : List Tm} {t u : Tm} {g : Gr} {n : Nat} (h : pairO ds t u = some (g, n)) : ∃ a b, graphO ds t = some a ∧ graphO ds u = some b ∧ a.length + b.length ≤ 60 ∧ g = bothL a b ∧ n = a.length := by
  unfold pairO at h
  cases h1 : graphO ds t with
  | none => rw [h1] at h; cases h
  | some a =>
    cases h2 : graphO ds u with
    | none => rw [h1, h2] at h; cases h
    | some b =>
      rw [h1, h2] at h
      simp only [Option.bind_some] at h
      split at h
      · rename_i hl; cases h; exact ⟨a, b, rfl, rfl, hl, rfl, rfl⟩
      · cases h
theorem pairO_ok {ds : List Tm} {t u : Tm} {g : Gr} {n : Nat} (h : pairO ds t u = some (g, n)) : GOk g ∧ n < g.length ∧ ∀ k, (g.getD k []).length < 4294967296 := by
  obtain ⟨a, b, h1, h2, h60, rfl, rfl⟩ := pairO_some h
  have ga := graphO_gok h1
  have gb := graphO_gok h2
  have ba := graphO_bnd (ds := ds) (t := t)
  have bb := graphO_bnd (ds := ds) (t := u)
  rw [h1] at ba; rw [h2] at bb
  refine ⟨both_ok ga gb h60, by have := gb.pos; rw [both_len]; omega, fun k => ?_⟩
  refine Nat.lt_of_le_of_lt (getD_all (p := fun (l : List Mv) => l.length ≤ 331776) ?_ (by simp) k) (by decide)
  intro l hl
  rcases List.mem_append.mp hl with hl | hl
  · exact ba l hl
  · obtain ⟨l', hl', rfl⟩ := List.mem_map.mp hl
    rw [List.length_map]; exact bb l' hl'
theorem alkO_iff {ds : List Tm} {t u : Tm} {v : Bool} (h : alkO ds t u = some v) : v = true ↔ Alk ds t u := by
  unfold alkO at h
  obtain ⟨⟨g, n⟩, h0, rfl⟩ := Option.map_eq_some_iff.mp h
  obtain ⟨a, b, h1, h2, h60, rfl, rfl⟩ := pairO_some h0
  rw [decide_eq_true_eq]
  exact alk_class h1 h2 h60
section
variable {base : Nat}
def RetPG (σ : Store) (o : Option (Gr × Nat)) : AV → Store → Prop := fun r σ' => ∃ (w : AV) (ws : List AV) (z : Int), r = .tup [.agg [w], I z, Bo o.isSome] ∧ (∀ x, o = some x → z = (x.2 : Int)) ∧ OW σ σ' w ws ∧ ORs σ σ' ws ((o.map Prod.fst).getD []) ∧ Grow σ σ'
theorem wc_callPG {E : Env} {ops : Array Oper} {l : List Oper} {Q : Exit → Slots → Store → Prop} {S : Slots} {σ : Store} {d : Option Tmp} {ty : TypeId} {pos : String} {af : Array Edge} {x : Operand} {args : Array Operand} {ats : Array TypeId} {f : FuncId} {rs caps : List AV} {o : Option (Gr × Nat)} (hf : S.ev x = some (.fn f caps)) (hc : Callable E.P f) (hargs : evs S args.toList = some rs)
    (h : ACall E.P E.base f (rs ++ caps) σ (fun _ => False) (RetPG σ o)) (hd : okd E d = true) (k : ∀ (w : AV) (ws : List AV) (z : Int) σ', One w → (∀ x, o = some x → z = (x.2 : Int)) → RW σ' w ws → RRs σ' ws ((o.map Prod.fst).getD []) → Grow σ σ' → WL E ops l Q (S.put d (.tup [.agg [w], I z, Bo o.isSome])) σ') :
    WL E ops (⟨d, .call ⟨.value x, args, ats⟩, ty, pos, af, none⟩ :: l) Q S σ :=
  wc_call hf hc hargs h hd fun r' σ' h => by obtain ⟨w, ws, z, e, h1, h2, h3, h4⟩ := h; subst e; exact k w ws z σ' h2.one h1 h2.rw h3.rrs h4
theorem pc_lenRow0 {α : Type} [Enc α] {E : Env} {S : Slots} {σ σ₀ : Store} {d : Option Tmp} {ty : TypeId} {pos : String} {af : Array Edge} {g : Option (Nat × Bool)} {n0 : Nat} {x : Operand} {t e : TypeId} {s : AV} {xs : List α} (hx : S.ev x = some s) (h : RW σ₀ s xs) (ht : Un E.P t (.slice e)) :
    PO E S σ n0 ⟨d, .call ⟨.builtin .len, #[x], #[t]⟩, ty, pos, af, g⟩ (I xs.length) := by
  rcases h.rep with ⟨rfl, a, c, rfl⟩ | ⟨id, off, o, rfl, _⟩
  · exact po_len_lit' hx ht.eq
  · exact po_len (ri := 0) hx ht.eq
theorem ret_pg_none {σ σ' : Store} {o : Option (Gr × Nat)} (h : o = none) (l : LeS σ σ') : RetPG σ o (.tup [.agg [nilS], I 0, Bo false]) σ' := by
  subst h; exact ⟨nilS, [], 0, rfl, fun x e => (by cases e), OW.nilS _ _, ORs.nil _ _, l.grow⟩
theorem both_opt {a b : Gr} {o : Option Gr} (ga : GOk a) (gb : GOk b) (h : optB (a.length + b.length ≤ 60) (bothL a b) = o) : optB (GOk a ∧ GOk b ∧ a.length + b.length ≤ 60) (bothL a b) = o := by
  rw [← h]
  by_cases h60 : a.length + b.length ≤ 60
  · rw [optB_yes h60, optB_yes ⟨ga, gb, h60⟩]
  · rw [optB_no h60, optB_no (fun h => h60 h.2.2)]
theorem c_bothOf (t u : Tm) (ds : List Tm) (σ : Store) (s s' d : AV) [hs : RTs σ s t.ps] [hs' : RTs σ s' u.ps] [hd : RTs σ d ds] : ACall Tryz.prog base F_impl_bothOf [.agg [I t.op, I t.n, s], .agg [I u.op, I u.n, s'], d] σ (fun _ => False) (RetPG σ (pairO ds t u)) := by
  have := hs.one
  have := hs'.one
  have := hd.one
  obtain ⟨o1, h1⟩ : ∃ o, graphO ds t = o := ⟨_, rfl⟩
  obtain ⟨o2, h2⟩ : ∃ o, graphO ds u = o := ⟨_, rfl⟩
  refine acall3 fun_impl_bothOf rfl tmps_impl_bothOf rfl fun N B w₀ ρ₀ => ?_
  cases o1 with
  | none =>
    cases o2 with
    | none =>
      repeat' (first
        | (refine wc_callGO rfl inI rfl (h1 ▸ c_GraphOf t ds _ _ _) rfl ?_; intro _ _ _ _ _ _ _)
        | (refine wc_callGO rfl inI rfl (h2 ▸ c_GraphOf u ds _ _ _) rfl ?_; intro _ _ _ _ _ _ _)
        | refine at_ret (res_ctt rfl rfl inI (at_has (cs := [_]) (.inl rfl) rfl rfl) rfl rfl) ?_
        | refine wl_pop rfl (pc_build0 (cs := [_]) inI inI rfl) ?_
        | refine wp_seqA ?_
        | refine wp_region_seq ?_
        | refine thru_seq_next ?_
        | refine thru_seq_ret ?_
        | refine wp_retA ?_
        | refine wl_nil ?_
        | refine wl_pop rfl (po_move rfl) ?_
        | refine wl_pop rfl (po_assign rfl) ?_
        | refine wc_loadn rfl inI (at_has (cs := [_, _, _]) (.inl rfl) rfl rfl) rfl ?_
        | refine wl_pop rfl (po_not rfl) ?_
        | (refine wc_storeA rfl rfl inI inI rfl inI (Nat.le_of_ble_eq_true rfl) (.inr (may_new _)) ?_; intro _ _)
        | refine wl_pop rfl (po_extract rfl rfl) ?_
        | (refine wc_boxA rfl inI rfl ?_; intro _ _ _ _ _)
        | (refine wc_allocA (cs := [_]) inI rfl inI rfl ?_; intro _ _ _ _ _)
        | refine wl_pop rfl (po_pick rfl rfl) ?_
        | refine wc_guardF_false rfl rfl rfl rfl ?_
        | refine wp_condT rfl ?_
        | fail)
      exact ret_pg_none (pairO_none1 h1) inI
    | some b =>
      repeat' (first
        | (refine wc_callGO rfl inI rfl (h1 ▸ c_GraphOf t ds _ _ _) rfl ?_; intro _ _ _ _ _ _ _)
        | (refine wc_callGO rfl inI rfl (h2 ▸ c_GraphOf u ds _ _ _) rfl ?_; intro _ _ _ _ _ _ _)
        | refine at_ret (res_ctt rfl rfl inI (at_has (cs := [_]) (.inl rfl) rfl rfl) rfl rfl) ?_
        | refine wl_pop rfl (pc_build0 (cs := [_]) inI inI rfl) ?_
        | refine wp_seqA ?_
        | refine wp_region_seq ?_
        | refine thru_seq_next ?_
        | refine thru_seq_ret ?_
        | refine wp_retA ?_
        | refine wl_nil ?_
        | refine wl_pop rfl (po_move rfl) ?_
        | refine wl_pop rfl (po_assign rfl) ?_
        | refine wc_loadn rfl inI (at_has (cs := [_, _, _]) (.inl rfl) rfl rfl) rfl ?_
        | refine wl_pop rfl (po_not rfl) ?_
        | (refine wc_storeA rfl rfl inI inI rfl inI (Nat.le_of_ble_eq_true rfl) (.inr (may_new _)) ?_; intro _ _)
        | refine wl_pop rfl (po_extract rfl rfl) ?_
        | (refine wc_boxA rfl inI rfl ?_; intro _ _ _ _ _)
        | (refine wc_allocA (cs := [_]) inI rfl inI rfl ?_; intro _ _ _ _ _)
        | refine wl_pop rfl (po_pick rfl rfl) ?_
        | refine wc_guardF_false rfl rfl rfl rfl ?_
        | refine wp_condT rfl ?_
        | fail)
      exact ret_pg_none (pairO_none1 h1) inI
  | some a =>
    cases o2 with
    | none =>
      repeat' (first
        | (refine wc_callGO rfl inI rfl (h1 ▸ c_GraphOf t ds _ _ _) rfl ?_; intro _ _ _ _ _ _ _)
        | (refine wc_callGO rfl inI rfl (h2 ▸ c_GraphOf u ds _ _ _) rfl ?_; intro _ _ _ _ _ _ _)
        | refine at_ret (res_ctt rfl rfl inI (at_has (cs := [_]) (.inl rfl) rfl rfl) rfl rfl) ?_
        | refine wl_pop rfl (pc_build0 (cs := [_]) inI inI rfl) ?_
        | refine wp_seqA ?_
        | refine wp_region_seq ?_
        | refine thru_seq_next ?_
        | refine thru_seq_ret ?_
        | refine wp_retA ?_
        | refine wl_nil ?_
        | refine wl_pop rfl (po_move rfl) ?_
        | refine wl_pop rfl (po_assign rfl) ?_
        | refine wc_loadn rfl inI (at_has (cs := [_, _, _]) (.inl rfl) rfl rfl) rfl ?_
        | refine wl_pop rfl (po_not rfl) ?_
        | (refine wc_storeA rfl rfl inI inI rfl inI (Nat.le_of_ble_eq_true rfl) (.inr (may_new _)) ?_; intro _ _)
        | refine wl_pop rfl (po_extract rfl rfl) ?_
        | (refine wc_boxA rfl inI rfl ?_; intro _ _ _ _ _)
        | (refine wc_allocA (cs := [_]) inI rfl inI rfl ?_; intro _ _ _ _ _)
        | refine wl_pop rfl (po_pick rfl rfl) ?_
        | refine wc_guardT_false rfl rfl rfl ?_
        | refine wp_condT rfl ?_
        | fail)
      exact ret_pg_none (pairO_none2 h2) inI
    | some b =>
      obtain ⟨o3, h3⟩ : ∃ o, optB (a.length + b.length ≤ 60) (bothL a b) = o := ⟨_, rfl⟩
      have hbo := both_opt (graphO_gok h1) (graphO_gok h2) h3
      have hga := graphO_gok h1
      repeat' (first
        | (refine wc_callGO rfl inI rfl (h1 ▸ c_GraphOf t ds _ _ _) rfl ?_; intro _ _ _ _ _ _ _)
        | (refine wc_callGO rfl inI rfl (h2 ▸ c_GraphOf u ds _ _ _) rfl ?_; intro _ _ _ _ _ _ _)
        | refine wc_holdR 5 ?_
        | refine wp_seqA ?_
        | refine wp_region_seq ?_
        | refine thru_seq_next ?_
        | refine wp_skipA ?_
        | refine wl_nil ?_
        | refine wl_pop rfl (po_move rfl) ?_
        | refine wl_pop rfl (po_assign rfl) ?_
        | refine wc_loadn rfl inI (at_has (cs := [_, _, _]) (.inl rfl) rfl rfl) rfl ?_
        | refine wl_pop rfl (po_not rfl) ?_
        | (refine wc_storeA rfl rfl inI inI rfl inI (Nat.le_of_ble_eq_true rfl) (.inr (may_new _)) ?_; intro _ _)
        | refine wl_pop rfl (po_extract rfl rfl) ?_
        | (refine wc_boxA rfl inI rfl ?_; intro _ _ _ _ _)
        | (refine wc_allocA (cs := [_]) inI rfl inI rfl ?_; intro _ _ _ _ _)
        | refine wl_pop rfl (po_pick rfl rfl) ?_
        | refine wc_guardT_false rfl rfl rfl ?_
        | refine wp_condF rfl ?_
        | fail)
      rename_i i1 σ1 g1 n1 h1' i2 σ2 g2 n2 h2' i3 σ3 g3 n3 h3' u1 v1 σ4 ou1 ow1 or1 gg1 i4 σ5 g5 n5 h5 σ6 u6 u2 v2 σ7 ou2 ow2 or2 gg2 i5 σ8 g8 n8 h8 σ9 u9
      have rwa : RW σ9 u1 v1 := inI
      have rra : RRs σ9 v1 a := inI
      have rwb : RW σ9 u2 v2 := inI
      have rrb : RRs σ9 v2 b := inI
      have hal := rra.len
      have hab := rwa.bound
      refine hold_go ?_
      repeat' (first
        | (refine wc_callGO rfl inI rfl (hbo ▸ c_GraphBoth (a := a) (b := b) _ _ _) rfl ?_; intro _ _ _ _ _ _ _)
        | refine wc_holdR 6 ?_
        | refine wc_loadn rfl inI (at_has (cs := [_]) (.inl rfl) rfl rfl) rfl ?_
        | refine wp_seqA ?_
        | refine wp_region_seq ?_
        | refine thru_seq_next ?_
        | refine wl_nil ?_
        | refine wl_pop rfl (po_move rfl) ?_
        | refine wl_pop rfl (po_assign rfl) ?_
        | (refine wc_storeA rfl rfl inI inI rfl inI (Nat.le_of_ble_eq_true rfl) (.inr (may_new _)) ?_; intro _ _)
        | refine wl_pop rfl (po_extract rfl rfl) ?_
        | (refine wc_allocA (cs := [_]) inI rfl inI rfl ?_; intro _ _ _ _ _)
        | fail)
      rename_i w ws σ10 ow' oww orw g10 ig σ11 g11 n11 h11 σ12 u12
      have hg12 : Has σ12 ig ⟨.own, 1, [w], []⟩ := instHasUpd (g := u12)
      have h412 : Has σ12 i4 ⟨.own, 1, [u1], []⟩ := inI
      have h312 : Has σ12 i3 ⟨.own, 1, [nilS], []⟩ := inI
      have rwa12 : RW σ12 u1 v1 := inI
      have l12 : LeS σ σ12 := inI
      have l10 : LeS σ10 σ12 := inI
      have owf : OW σ9 σ12 w ws := inI
      have orf : ORs σ9 σ12 ws (o3.getD []) := inI
      have y1 := n3.le
      have y2 := h312.lt
      have y3 := n5.le
      have y4 := n11.le
      have y5 : σ2.length ≤ i3 := n3.le
      have y6 : σ.length ≤ σ2.length := (inI : LeS σ σ2).len
      have y7 : i3 < σ3.length := h3'.lt
      have y8 : σ3.length ≤ σ4.length := (inI : LeS σ3 σ4).len
      have y9 : σ3.length ≤ σ10.length := (inI : LeS σ3 σ10).len
      have y10 : σ9.length ≤ σ10.length := (inI : LeS σ9 σ10).len
      have y11 : σ.length ≤ σ9.length := (inI : LeS σ σ9).len
      have y12 : i3 < σ9.length := Nat.lt_of_lt_of_le y7 (inI : LeS σ3 σ9).len
      clear u12 h11 u9 u6
      refine hold_go ?_
      refine wc_drawnXp (t := 6) i3 [6, 7] mixed_ rfl rfl ?_
      refine dx_loadnB 0 rfl rfl (by kernel_rfl) rfl inI (at_has (h := hg12) (cs := [_]) (.inl rfl) rfl rfl) hg12.lt h312 (by omega) ?_
      refine dx_pure 1 rfl rfl (by kernel_rfl) (po_fieldAddr rfl inI) ?_
      refine dx_load1 2 rfl rfl (by kernel_rfl) rfl inI (at_has (h := h412) (.inl rfl) rfl rfl) h412.lt h312 (by omega) ?_
      refine dx_pure 3 rfl rfl (by kernel_rfl) (pc_lenRow0 rfl rwa12 inI) ?_
      refine dx_pure 4 rfl rfl (by kernel_rfl) (po_move rfl) ?_
      refine dx_one 5 rfl (by kernel_rfl) h312 (.inr (by omega)) ?_
      intro N' B' w' r' may' hmay
      refine wc_storeA rfl rfl inI h312 rfl inI (Nat.le_of_ble_eq_true rfl) (hmay _ (.inl rfl)) ?_
      intro σ13 u13
      have h313 : Has σ13 i3 ⟨.own, 1, [w], []⟩ := instHasUpd (g := u13)
      refine wl_nil ⟨rfl, by have := Upd.len u13; omega, ?_⟩
      refine dx_last 6 rfl (by decide) (by kernel_rfl) ?_
      refine wl_pop rfl (po_assign rfl) ?_
      refine wl_nil (dl_in ?_)
      refine dl_last 7 rfl (by decide) (by kernel_rfl) ?_
      refine wl_pop rfl (po_assign rfl) ?_
      refine wl_nil (dl_in ?_)
      refine dl_done (by kernel_rfl) ?_
      repeat' (first
        | refine at_ret (res_ctt rfl rfl inI (at_has (cs := [_]) (.inl rfl) rfl rfl) rfl rfl) ?_
        | refine thru_seq_next ?_
        | refine wp_retA ?_
        | fail)
      have kz : ∀ (j : Nat) (o : Ob), σ9.length ≤ j → σ12[j]? = some o → σ13[j]? = some o := fun j o hj ho => by rw [u13.eq, List.getElem?_set_ne (by omega)]; exact ho
      refine ⟨w, ws, (v1.length : Int), ?_, ?_, (owf.keep fun j o hj _ ho => kz j o hj ho).down y11, ?_, ⟨fun q o ho => by rw [u13.eq, List.getElem?_set_ne (by have := Has.lt ⟨ho⟩; omega)]; exact l12.keep q o ho⟩⟩
      · rw [pairO_both h1 h2]
        by_cases h60 : a.length + b.length ≤ 60
        · rw [if_pos h60]; rw [optB_yes h60] at h3; rw [← h3]; rfl
        · rw [if_neg h60]; rw [optB_no h60] at h3; rw [← h3]; rfl
      · rw [pairO_both h1 h2]
        intro x hx
        split at hx
        · cases hx; simp only; omega
        · cases hx
      · have e : ((pairO ds t u).map Prod.fst).getD [] = o3.getD [] := by
          rw [pairO_both h1 h2, ← h3]
          by_cases h60 : a.length + b.length ≤ 60
          · rw [if_pos h60, optB_yes h60]; rfl
          · rw [if_neg h60, optB_no h60]; rfl
        rw [e]
        exact (orf.keep fun j o hj _ ho => kz j o hj ho).down y11
theorem c_l4Pair (t u : Tm) (ds : List Tm) (σ : Store) (s s' d : AV) [hs : RTs σ s t.ps] [hs' : RTs σ s' u.ps] [hd : RTs σ d ds] : ACall Tryz.prog base F_spec_l4Pair [.agg [I t.op, I t.n, s], .agg [I u.op, I u.n, s'], d] σ (fun _ => False) (RetPG σ (pairO ds t u)) := by
  have := hs.one
  have := hs'.one
  have := hd.one
  obtain ⟨o1, h1⟩ : ∃ o, graphO ds t = o := ⟨_, rfl⟩
  obtain ⟨o2, h2⟩ : ∃ o, graphO ds u = o := ⟨_, rfl⟩
  refine acall3 fun_spec_l4Pair rfl tmps_spec_l4Pair rfl fun N B w₀ ρ₀ => ?_
  cases o1 with
  | none =>
    cases o2 with
    | none =>
      repeat' (first
        | (refine wc_callGO rfl inI rfl (h1 ▸ c_sGraphOf t ds _ _ _) rfl ?_; intro _ _ _ _ _ _ _)
        | (refine wc_callGO rfl inI rfl (h2 ▸ c_sGraphOf u ds _ _ _) rfl ?_; intro _ _ _ _ _ _ _)
        | refine at_ret (res_ctt rfl rfl inI (at_has (cs := [_]) (.inl rfl) rfl rfl) rfl rfl) ?_
        | refine wl_pop rfl (pc_build0 (cs := [_]) inI inI rfl) ?_
        | refine wp_seqA ?_
        | refine wp_region_seq ?_
        | refine thru_seq_next ?_
        | refine thru_seq_ret ?_
        | refine wp_retA ?_
        | refine wl_nil ?_
        | refine wl_pop rfl (po_move rfl) ?_
        | refine wl_pop rfl (po_assign rfl) ?_
        | refine wc_loadn rfl inI (at_has (cs := [_, _, _]) (.inl rfl) rfl rfl) rfl ?_
        | refine wl_pop rfl (po_not rfl) ?_
        | (refine wc_storeA rfl rfl inI inI rfl inI (Nat.le_of_ble_eq_true rfl) (.inr (may_new _)) ?_; intro _ _)
        | refine wl_pop rfl (po_extract rfl rfl) ?_
        | (refine wc_boxA rfl inI rfl ?_; intro _ _ _ _ _)
        | (refine wc_allocA (cs := [_]) inI rfl inI rfl ?_; intro _ _ _ _ _)
        | refine wl_pop rfl (po_pick rfl rfl) ?_
        | refine wc_guardF_false rfl rfl rfl rfl ?_
        | refine wp_condT rfl ?_
        | fail)
      exact ret_pg_none (pairO_none1 h1) inI
    | some b =>
      repeat' (first
        | (refine wc_callGO rfl inI rfl (h1 ▸ c_sGraphOf t ds _ _ _) rfl ?_; intro _ _ _ _ _ _ _)
        | (refine wc_callGO rfl inI rfl (h2 ▸ c_sGraphOf u ds _ _ _) rfl ?_; intro _ _ _ _ _ _ _)
        | refine at_ret (res_ctt rfl rfl inI (at_has (cs := [_]) (.inl rfl) rfl rfl) rfl rfl) ?_
        | refine wl_pop rfl (pc_build0 (cs := [_]) inI inI rfl) ?_
        | refine wp_seqA ?_
        | refine wp_region_seq ?_
        | refine thru_seq_next ?_
        | refine thru_seq_ret ?_
        | refine wp_retA ?_
        | refine wl_nil ?_
        | refine wl_pop rfl (po_move rfl) ?_
        | refine wl_pop rfl (po_assign rfl) ?_
        | refine wc_loadn rfl inI (at_has (cs := [_, _, _]) (.inl rfl) rfl rfl) rfl ?_
        | refine wl_pop rfl (po_not rfl) ?_
        | (refine wc_storeA rfl rfl inI inI rfl inI (Nat.le_of_ble_eq_true rfl) (.inr (may_new _)) ?_; intro _ _)
        | refine wl_pop rfl (po_extract rfl rfl) ?_
        | (refine wc_boxA rfl inI rfl ?_; intro _ _ _ _ _)
        | (refine wc_allocA (cs := [_]) inI rfl inI rfl ?_; intro _ _ _ _ _)
        | refine wl_pop rfl (po_pick rfl rfl) ?_
        | refine wc_guardF_false rfl rfl rfl rfl ?_
        | refine wp_condT rfl ?_
        | fail)
      exact ret_pg_none (pairO_none1 h1) inI
  | some a =>
    cases o2 with
    | none =>
      repeat' (first
        | (refine wc_callGO rfl inI rfl (h1 ▸ c_sGraphOf t ds _ _ _) rfl ?_; intro _ _ _ _ _ _ _)
        | (refine wc_callGO rfl inI rfl (h2 ▸ c_sGraphOf u ds _ _ _) rfl ?_; intro _ _ _ _ _ _ _)
        | refine at_ret (res_ctt rfl rfl inI (at_has (cs := [_]) (.inl rfl) rfl rfl) rfl rfl) ?_
        | refine wl_pop rfl (pc_build0 (cs := [_]) inI inI rfl) ?_
        | refine wp_seqA ?_
        | refine wp_region_seq ?_
        | refine thru_seq_next ?_
        | refine thru_seq_ret ?_
        | refine wp_retA ?_
        | refine wl_nil ?_
        | refine wl_pop rfl (po_move rfl) ?_
        | refine wl_pop rfl (po_assign rfl) ?_
        | refine wc_loadn rfl inI (at_has (cs := [_, _, _]) (.inl rfl) rfl rfl) rfl ?_
        | refine wl_pop rfl (po_not rfl) ?_
        | (refine wc_storeA rfl rfl inI inI rfl inI (Nat.le_of_ble_eq_true rfl) (.inr (may_new _)) ?_; intro _ _)
        | refine wl_pop rfl (po_extract rfl rfl) ?_
        | (refine wc_boxA rfl inI rfl ?_; intro _ _ _ _ _)
        | (refine wc_allocA (cs := [_]) inI rfl inI rfl ?_; intro _ _ _ _ _)
        | refine wl_pop rfl (po_pick rfl rfl) ?_
        | refine wc_guardT_false rfl rfl rfl ?_
        | refine wp_condT rfl ?_
        | fail)
      exact ret_pg_none (pairO_none2 h2) inI
    | some b =>
      obtain ⟨o3, h3⟩ : ∃ o, optB (a.length + b.length ≤ 60) (bothL a b) = o := ⟨_, rfl⟩
      have hbo := both_opt (graphO_gok h1) (graphO_gok h2) h3
      have hga := graphO_gok h1
      repeat' (first
        | (refine wc_callGO rfl inI rfl (h1 ▸ c_sGraphOf t ds _ _ _) rfl ?_; intro _ _ _ _ _ _ _)
        | (refine wc_callGO rfl inI rfl (h2 ▸ c_sGraphOf u ds _ _ _) rfl ?_; intro _ _ _ _ _ _ _)
        | refine wc_holdR 5 ?_
        | refine wp_seqA ?_
        | refine wp_region_seq ?_
        | refine thru_seq_next ?_
        | refine wp_skipA ?_
        | refine wl_nil ?_
        | refine wl_pop rfl (po_move rfl) ?_
        | refine wl_pop rfl (po_assign rfl) ?_
        | refine wc_loadn rfl inI (at_has (cs := [_, _, _]) (.inl rfl) rfl rfl) rfl ?_
        | refine wl_pop rfl (po_not rfl) ?_
        | (refine wc_storeA rfl rfl inI inI rfl inI (Nat.le_of_ble_eq_true rfl) (.inr (may_new _)) ?_; intro _ _)
        | refine wl_pop rfl (po_extract rfl rfl) ?_
        | (refine wc_boxA rfl inI rfl ?_; intro _ _ _ _ _)
        | (refine wc_allocA (cs := [_]) inI rfl inI rfl ?_; intro _ _ _ _ _)
        | refine wl_pop rfl (po_pick rfl rfl) ?_
        | refine wc_guardT_false rfl rfl rfl ?_
        | refine wp_condF rfl ?_
        | fail)
      rename_i i1 σ1 g1 n1 h1' i2 σ2 g2 n2 h2' i3 σ3 g3 n3 h3' u1 v1 σ4 ou1 ow1 or1 gg1 i4 σ5 g5 n5 h5 σ6 u6 u2 v2 σ7 ou2 ow2 or2 gg2 i5 σ8 g8 n8 h8 σ9 u9
      have rwa : RW σ9 u1 v1 := inI
      have rra : RRs σ9 v1 a := inI
      have rwb : RW σ9 u2 v2 := inI
      have rrb : RRs σ9 v2 b := inI
      have hal := rra.len
      have hab := rwa.bound
      refine hold_go ?_
      repeat' (first
        | (refine wc_callGO rfl inI rfl (hbo ▸ c_sGraphBoth (a := a) (b := b) _ _ _) rfl ?_; intro _ _ _ _ _ _ _)
        | refine wc_holdR 6 ?_
        | refine wc_loadn rfl inI (at_has (cs := [_]) (.inl rfl) rfl rfl) rfl ?_
        | refine wp_seqA ?_
        | refine wp_region_seq ?_
        | refine thru_seq_next ?_
        | refine wl_nil ?_
        | refine wl_pop rfl (po_move rfl) ?_
        | refine wl_pop rfl (po_assign rfl) ?_
        | (refine wc_storeA rfl rfl inI inI rfl inI (Nat.le_of_ble_eq_true rfl) (.inr (may_new _)) ?_; intro _ _)
        | refine wl_pop rfl (po_extract rfl rfl) ?_
        | (refine wc_allocA (cs := [_]) inI rfl inI rfl ?_; intro _ _ _ _ _)
        | fail)
      rename_i w ws σ10 ow' oww orw g10 ig σ11 g11 n11 h11 σ12 u12
      have hg12 : Has σ12 ig ⟨.own, 1, [w], []⟩ := instHasUpd (g := u12)
      have h412 : Has σ12 i4 ⟨.own, 1, [u1], []⟩ := inI
      have h312 : Has σ12 i3 ⟨.own, 1, [nilS], []⟩ := inI
      have rwa12 : RW σ12 u1 v1 := inI
      have l12 : LeS σ σ12 := inI
      have l10 : LeS σ10 σ12 := inI
      have owf : OW σ9 σ12 w ws := inI
      have orf : ORs σ9 σ12 ws (o3.getD []) := inI
      have y1 := n3.le
      have y2 := h312.lt
      have y3 := n5.le
      have y4 := n11.le
      have y5 : σ2.length ≤ i3 := n3.le
      have y6 : σ.length ≤ σ2.length := (inI : LeS σ σ2).len
      have y7 : i3 < σ3.length := h3'.lt
      have y8 : σ3.length ≤ σ4.length := (inI : LeS σ3 σ4).len
      have y9 : σ3.length ≤ σ10.length := (inI : LeS σ3 σ10).len
      have y10 : σ9.length ≤ σ10.length := (inI : LeS σ9 σ10).len
      have y11 : σ.length ≤ σ9.length := (inI : LeS σ σ9).len
      have y12 : i3 < σ9.length := Nat.lt_of_lt_of_le y7 (inI : LeS σ3 σ9).len
      clear u12 h11 u9 u6
      refine hold_go ?_
      refine wc_drawnXp (t := 6) i3 [6, 7] mixed_ rfl rfl ?_
      refine dx_loadnB 0 rfl rfl (by kernel_rfl) rfl inI (at_has (h := hg12) (cs := [_]) (.inl rfl) rfl rfl) hg12.lt h312 (by omega) ?_
      refine dx_pure 1 rfl rfl (by kernel_rfl) (po_fieldAddr rfl inI) ?_
      refine dx_load1 2 rfl rfl (by kernel_rfl) rfl inI (at_has (h := h412) (.inl rfl) rfl rfl) h412.lt h312 (by omega) ?_
      refine dx_pure 3 rfl rfl (by kernel_rfl) (pc_lenRow0 rfl rwa12 inI) ?_
      refine dx_pure 4 rfl rfl (by kernel_rfl) (po_move rfl) ?_
      refine dx_one 5 rfl (by kernel_rfl) h312 (.inr (by omega)) ?_
      intro N' B' w' r' may' hmay
      refine wc_storeA rfl rfl inI h312 rfl inI (Nat.le_of_ble_eq_true rfl) (hmay _ (.inl rfl)) ?_
      intro σ13 u13
      have h313 : Has σ13 i3 ⟨.own, 1, [w], []⟩ := instHasUpd (g := u13)
      refine wl_nil ⟨rfl, by have := Upd.len u13; omega, ?_⟩
      refine dx_last 6 rfl (by decide) (by kernel_rfl) ?_
      refine wl_pop rfl (po_assign rfl) ?_
      refine wl_nil (dl_in ?_)
      refine dl_last 7 rfl (by decide) (by kernel_rfl) ?_
      refine wl_pop rfl (po_assign rfl) ?_
      refine wl_nil (dl_in ?_)
      refine dl_done (by kernel_rfl) ?_
      repeat' (first
        | refine at_ret (res_ctt rfl rfl inI (at_has (cs := [_]) (.inl rfl) rfl rfl) rfl rfl) ?_
        | refine thru_seq_next ?_
        | refine wp_retA ?_
        | fail)
      have kz : ∀ (j : Nat) (o : Ob), σ9.length ≤ j → σ12[j]? = some o → σ13[j]? = some o := fun j o hj ho => by rw [u13.eq, List.getElem?_set_ne (by omega)]; exact ho
      refine ⟨w, ws, (v1.length : Int), ?_, ?_, (owf.keep fun j o hj _ ho => kz j o hj ho).down y11, ?_, ⟨fun q o ho => by rw [u13.eq, List.getElem?_set_ne (by have := Has.lt ⟨ho⟩; omega)]; exact l12.keep q o ho⟩⟩
      · rw [pairO_both h1 h2]
        by_cases h60 : a.length + b.length ≤ 60
        · rw [if_pos h60]; rw [optB_yes h60] at h3; rw [← h3]; rfl
        · rw [if_neg h60]; rw [optB_no h60] at h3; rw [← h3]; rfl
      · rw [pairO_both h1 h2]
        intro x hx
        split at hx
        · cases hx; simp only; omega
        · cases hx
      · have e : ((pairO ds t u).map Prod.fst).getD [] = o3.getD [] := by
          rw [pairO_both h1 h2, ← h3]
          by_cases h60 : a.length + b.length ≤ 60
          · rw [if_pos h60, optB_yes h60]; rfl
          · rw [if_neg h60, optB_no h60]; rfl
        rw [e]
        exact (orf.keep fun j o hj _ ho => kz j o hj ho).down y11
end
end Go.Proofs.YthbodgnoadlbcaaGreatDoor.Asl
