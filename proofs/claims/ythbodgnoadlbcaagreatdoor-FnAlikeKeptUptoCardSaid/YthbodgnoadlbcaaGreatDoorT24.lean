/- Steps of terms, plainly: what they are, how many there are, how great they are. -/
import Derived.Test.YthbodgnoadlbcaaGreatDoorTT
namespace Go.Proofs.YthbodgnoadlbcaaGreatDoor.Asl
set_option linter.unusedVariables false
set_option linter.unusedSimpArgs false
--CUT
abbrev Stp := Int × Tm
def parT (a b : Tm) : Tm := .node 3 0 [a, b]
def hideT (n : Int) (a : Tm) : Tm := .node 4 n [a]
def nilT : Tm := .node 0 0 []
def meetsL (a b : List Stp) : List Stp := a.flatMap fun x => (b.filter fun y => decide (x.1 ≠ 0 ∧ x.1 = -y.1)).map fun y => (0, parT x.2 y.2)
def parL (p q : Tm) (a b : List Stp) : List Stp := a.map (fun x => (x.1, parT x.2 q)) ++ b.map (fun y => (y.1, parT p y.2)) ++ meetsL a b
def hidP (n : Int) (x : Stp) : Bool := decide (x.1 = 0 ∨ max x.1 (-x.1) - 1 ≠ n)
def hideL (n : Int) (a : List Stp) : List Stp := (a.filter (hidP n)).map fun x => (x.1, hideT n x.2)
def stF (D : List (List Stp)) (op n : Int) (ps : List Tm) (L : List (List Stp)) : List Stp :=
  if op = 1 then [(n, ps.getD 0 nilT)]
  else if op = 2 then L.getD 0 [] ++ L.getD 1 []
  else if op = 3 then parL (ps.getD 0 nilT) (ps.getD 1 nilT) (L.getD 0 []) (L.getD 1 [])
  else if op = 4 then hideL n (L.getD 0 [])
  else if op = 5 then D.getD n.toNat [] else []
mutual
def Tm.st (D : List (List Stp)) : Tm → List Stp | .node op n ps => stF D op n ps (Tm.sts D ps)
def Tm.sts (D : List (List Stp)) : List Tm → List (List Stp) | [] => [] | p :: ps => p.st D :: Tm.sts D ps
end
def defL (ds : List Tm) : List (List Stp) := ds.map (Tm.st [])
def Tm.steps (ds : List Tm) (t : Tm) : List Stp := t.st (defL ds)
def vis (L : List Stp) : Nat := (L.filter fun x => decide (x.1 ≠ 0)).length
theorem vis_append (a b : List Stp) : vis (a ++ b) = vis a + vis b := by simp [vis]
theorem vis_map {a : List Stp} (f : Stp → Tm) : vis (a.map fun x => (x.1, f x)) = vis a := by
  simp only [vis, List.filter_map, List.length_map, Function.comp_def]
theorem vis_zero {a : List Stp} (h : ∀ x ∈ a, x.1 = 0) : vis a = 0 := by
  simp only [vis, List.length_eq_zero_iff, List.filter_eq_nil_iff]
  intro x hx; simp [h x hx]
theorem vis_le (a : List Stp) : vis a ≤ a.length := List.length_filter_le _ _
theorem vis_filter (a : List Stp) (p : Stp → Bool) : vis (a.filter p) ≤ vis a := by
  simp only [vis, List.filter_filter]
  induction a with
  | nil => simp
  | cons x a ih =>
    simp only [List.filter_cons]
    by_cases h : decide (x.1 ≠ 0) = true <;> by_cases k : p x = true <;> simp_all <;> omega
theorem meets_len (a b : List Stp) : (meetsL a b).length ≤ vis a * vis b := by
  induction a with
  | nil => simp [meetsL]
  | cons x a ih =>
    have e : meetsL (x :: a) b = ((b.filter fun y => decide (x.1 ≠ 0 ∧ x.1 = -y.1)).map fun y => (0, parT x.2 y.2)) ++ meetsL a b := by simp [meetsL]
    rw [e, List.length_append, List.length_map]
    by_cases h : x.1 = 0
    · have e1 : (b.filter fun y => decide (x.1 ≠ 0 ∧ x.1 = -y.1)) = [] := by
        rw [List.filter_eq_nil_iff]; intro y _; simp [h]
      have e2 : vis (x :: a) = vis a := by simp [vis, h]
      rw [e1, e2]; simpa using ih
    · have e2 : vis (x :: a) = vis a + 1 := by simp [vis, h]
      have e3 : (b.filter fun y => decide (x.1 ≠ 0 ∧ x.1 = -y.1)).length ≤ vis b := by
        unfold vis
        clear ih e e2
        induction b with
        | nil => simp
        | cons y b ih =>
          simp only [List.filter_cons]
          by_cases k : x.1 = -y.1
          · have : y.1 ≠ 0 := by omega
            simp [h, k, this] at ih ⊢; exact ih
          · simp only [k, and_false, decide_false, Bool.false_eq_true, if_false]
            split
            · simp only [List.length_cons]; omega
            · exact ih
      rw [e2, Nat.add_mul]; omega
theorem meets_tau {a b : List Stp} : ∀ x ∈ meetsL a b, x.1 = 0 := by
  intro x hx
  simp only [meetsL, List.mem_flatMap, List.mem_map] at hx
  obtain ⟨y, _, z, _, rfl⟩ := hx; rfl
mutual
def Tm.wt : Tm → Nat | .node op n ps => if op = 1 then 1 else if op = 5 then 24 else 1 + Tm.wts ps
def Tm.wts : List Tm → Nat | [] => 0 | p :: ps => p.wt + Tm.wts ps
end
mutual
theorem Tm.wt_le : ∀ t : Tm, t.wt ≤ 24 * t.cnt
  | .node op n ps => by
    have := Tm.wts_le ps
    simp only [Tm.wt, Tm.cnt]; split; omega; split <;> omega
theorem Tm.wts_le : ∀ ps : List Tm, Tm.wts ps ≤ 24 * Tm.cnts ps
  | [] => by simp [Tm.wts, Tm.cnts]
  | p :: ps => by
    have := Tm.wt_le p
    have := Tm.wts_le ps
    simp only [Tm.wts, Tm.cnts]; omega
end
mutual
theorem Tm.wt_bare : ∀ t : Tm, t.bare = false → t.wt ≤ t.cnt
  | .node op n ps, h => by
    simp only [Tm.bare, Bool.or_eq_false_iff, Bool.and_eq_false_iff, decide_eq_false_iff_not, ne_eq, Decidable.not_not] at h
    simp only [Tm.wt, Tm.cnt]
    split
    · omega
    · rename_i h1
      rw [if_neg h.1]
      rcases h.2 with h2 | h2
      · exact absurd h2 h1
      · have := Tm.wts_bare ps h2; omega
theorem Tm.wts_bare : ∀ ps : List Tm, Tm.bares ps = false → Tm.wts ps ≤ Tm.cnts ps
  | [], _ => by simp [Tm.wts, Tm.cnts]
  | p :: ps, h => by
    simp only [Tm.bares, Bool.or_eq_false_iff] at h
    have := Tm.wt_bare p h.1
    have := Tm.wts_bare ps h.2
    simp only [Tm.wts, Tm.cnts]; omega
end
theorem Tm.sts_getD (D : List (List Stp)) : ∀ (ps : List Tm) (k : Nat), (Tm.sts D ps).getD k [] = if h : k < ps.length then ps[k].st D else []
  | [], k => by simp [Tm.sts]
  | p :: ps, 0 => by simp [Tm.sts]
  | p :: ps, k + 1 => by
    have := Tm.sts_getD D ps k
    simp only [Tm.sts, List.getD_cons_succ, List.length_cons, List.getElem_cons_succ, Nat.add_lt_add_iff_right]
    exact this
theorem sq_add (a b : Nat) : a * a + b * b + a * b ≤ (1 + (a + b)) * (1 + (a + b)) := by
  have e : (1 + (a + b)) * (1 + (a + b)) = 1 + 2 * a + 2 * b + (a * a + b * b) + 2 * (a * b) := by
    simp only [Nat.add_mul, Nat.mul_add, Nat.one_mul, Nat.mul_one]
    have : b * a = a * b := Nat.mul_comm _ _
    omega
  omega
theorem Tm.st_bound (D : List (List Stp)) (hD : ∀ k, vis (D.getD k []) ≤ 24 ∧ (D.getD k []).length ≤ 576) (t : Tm) : vis (t.st D) ≤ t.wt ∧ (t.st D).length ≤ t.wt * t.wt := by
  induction t using Tm.ind with
  | _ op n ps ih =>
    have key : ∀ k, vis ((Tm.sts D ps).getD k []) ≤ (if h : k < ps.length then ps[k].wt else 0) ∧ ((Tm.sts D ps).getD k []).length ≤ (if h : k < ps.length then ps[k].wt * ps[k].wt else 0) := by
      intro k
      rw [Tm.sts_getD]
      by_cases h : k < ps.length
      · rw [dif_pos h, dif_pos h, dif_pos h]; exact ih _ (List.getElem_mem h)
      · rw [dif_neg h, dif_neg h, dif_neg h]; simp [vis]
    have k0 := key 0
    have k1 := key 1
    have hw : (if h : 0 < ps.length then ps[0].wt else 0) + (if h : 1 < ps.length then ps[1].wt else 0) ≤ Tm.wts ps ∧ (if h : 0 < ps.length then ps[0].wt * ps[0].wt else 0) = (if h : 0 < ps.length then ps[0].wt else 0) * (if h : 0 < ps.length then ps[0].wt else 0) ∧ (if h : 1 < ps.length then ps[1].wt * ps[1].wt else 0) = (if h : 1 < ps.length then ps[1].wt else 0) * (if h : 1 < ps.length then ps[1].wt else 0) := by
      rcases ps with _ | ⟨p, _ | ⟨q, ps⟩⟩
      · simp
      · simp [Tm.wts]
      · simp [Tm.wts]
    obtain ⟨hw1, hw2, hw3⟩ := hw
    rw [hw2] at k0
    rw [hw3] at k1
    generalize (if h : 0 < ps.length then ps[0].wt else 0) = A at *
    generalize (if h : 1 < ps.length then ps[1].wt else 0) = B at *
    generalize ha : (Tm.sts D ps).getD 0 [] = a at *
    generalize hb : (Tm.sts D ps).getD 1 [] = b at *
    have hsq := sq_add A B
    have hmono : (1 + (A + B)) * (1 + (A + B)) ≤ (1 + Tm.wts ps) * (1 + Tm.wts ps) := Nat.mul_le_mul (by omega) (by omega)
    have hAB : A * B + 0 = A * B := rfl
    simp only [Tm.st, stF, Tm.wt, ha, hb]
    by_cases h1 : op = 1
    · rw [if_pos h1, if_pos h1]; exact ⟨Nat.le_trans (vis_le _) (by simp), by simp⟩
    rw [if_neg h1, if_neg h1]
    by_cases h5 : op = 5
    · subst h5
      rw [if_neg (by decide), if_neg (by decide), if_neg (by decide), if_pos rfl, if_pos rfl]
      exact hD _
    rw [if_neg h5, if_neg h5]
    by_cases h2 : op = 2
    · rw [if_pos h2, vis_append, List.length_append]
      exact ⟨by omega, by omega⟩
    rw [if_neg h2]
    by_cases h3 : op = 3
    · rw [if_pos h3]
      have hm := meets_len a b
      have hm2 : vis a * vis b ≤ A * B := Nat.mul_le_mul k0.1 k1.1
      have hm3 : vis (meetsL a b) = 0 := vis_zero meets_tau
      simp only [parL, vis_append, List.length_append, List.length_map]
      rw [vis_map (fun x => parT x.2 _), vis_map (fun y => parT _ y.2)]
      exact ⟨by omega, by omega⟩
    rw [if_neg h3]
    by_cases h4 : op = 4
    · rw [if_pos h4]
      have f1 := vis_filter a (hidP n)
      have f2 := List.length_filter_le (hidP n) a
      simp only [hideL, List.length_map]
      rw [vis_map (fun x => hideT n x.2)]
      exact ⟨by omega, by omega⟩
    · rw [if_neg h4]; simp [vis]
def okS (m : Int) (c : Nat) (x : Stp) : Prop := (-4 ≤ x.1 ∧ x.1 ≤ 4) ∧ x.2.shape = true ∧ x.2.callLt m = true ∧ x.2.cnt ≤ c
theorem okS_le {m : Int} {c c' : Nat} {x : Stp} (h : okS m c x) (hc : c ≤ c') : okS m c' x := ⟨h.1, h.2.1, h.2.2.1, Nat.le_trans h.2.2.2 hc⟩
theorem nodeOk3 : nodeOk 3 0 2 = true := by rw [nodeOk_iff]; omega
theorem parT_ok {m : Int} {a b : Tm} (h1 : a.shape = true) (h2 : b.shape = true) (k1 : a.callLt m = true) (k2 : b.callLt m = true) : (parT a b).shape = true ∧ (parT a b).callLt m = true ∧ (parT a b).cnt = 1 + (a.cnt + b.cnt) := by
  simp [parT, Tm.shape, Tm.shapes, Tm.callLt, Tm.callLts, Tm.cnt, Tm.cnts, h1, h2, k1, k2, nodeOk3]
theorem hideT_ok {m n : Int} {a : Tm} (h1 : a.shape = true) (k1 : a.callLt m = true) (hn : 0 ≤ n ∧ n ≤ 3) : (hideT n a).shape = true ∧ (hideT n a).callLt m = true ∧ (hideT n a).cnt = 1 + a.cnt := by
  have : nodeOk 4 n 1 = true := by rw [nodeOk_iff]; omega
  simp [hideT, Tm.shape, Tm.shapes, Tm.callLt, Tm.callLts, Tm.cnt, Tm.cnts, h1, k1, this]
theorem Tm.callLts_mem {m : Int} {ps : List Tm} (h : Tm.callLts m ps = true) : ∀ p ∈ ps, p.callLt m = true := by
  rw [Tm.callLts_eq, List.all_eq_true] at h; exact h
theorem Tm.st_ok {m : Int} (D : List (List Stp)) (f : Nat) (hf : 1 ≤ f) (hD : ∀ k x, x ∈ D.getD k [] → okS m f x) (t : Tm) : t.shape = true → t.callLt m = true → ∀ x ∈ t.st D, okS m (f * t.cnt) x := by
  induction t using Tm.ind with
  | _ op n ps ih =>
    intro hs hc x hx
    obtain ⟨hno, hps⟩ := Tm.shape_node hs
    simp only [Tm.callLt, Bool.and_eq_true] at hc
    have hcp := Tm.callLts_mem hc.2
    rw [nodeOk_iff] at hno
    have hmul : ∀ c, c ≤ f * c := fun c => Nat.le_mul_of_pos_left c hf
    simp only [Tm.st, stF] at hx
    simp only [Tm.cnt]
    rcases hno with ⟨rfl, h⟩ | ⟨rfl, hn, hl⟩ | ⟨h23, rfl, hl⟩ | ⟨rfl, hn, hl⟩ | ⟨rfl, hn, hl⟩
    · simp at hx
    · obtain ⟨p, rfl⟩ := List.length_eq_one_iff.mp hl
      simp at hx; subst hx
      have := hmul (1 + Tm.cnts [p])
      have := hmul p.cnt
      refine ⟨hn, hps p (by simp), hcp p (by simp), ?_⟩
      simp only [Tm.cnts] at *; omega
    · obtain ⟨p, q, rfl⟩ : ∃ p q, ps = [p, q] := by
        rcases ps with _ | ⟨p, _ | ⟨q, _ | _⟩⟩ <;> simp at hl
        exact ⟨p, q, rfl⟩
      have i1 := ih p (by simp) (hps p (by simp)) (hcp p (by simp))
      have i2 := ih q (by simp) (hps q (by simp)) (hcp q (by simp))
      have e1 : f * (1 + Tm.cnts [p, q]) = f + (f * p.cnt + f * q.cnt) := by simp only [Tm.cnts, Nat.mul_add]; omega
      rw [e1]
      have hp := hmul p.cnt
      have hq := hmul q.cnt
      have cp := Tm.cnt_pos p
      rcases h23 with rfl | rfl
      · simp only [Tm.sts, List.getD_cons_zero, List.getD_cons_succ] at hx
        rw [if_neg (by decide), if_pos trivial, List.mem_append] at hx
        rcases hx with hx | hx
        · exact okS_le (i1 x hx) (by omega)
        · exact okS_le (i2 x hx) (by omega)
      · simp only [Tm.sts, List.getD_cons_zero, List.getD_cons_succ] at hx
        rw [if_neg (by decide), if_neg (by decide), if_pos trivial] at hx
        simp only [parL, meetsL, List.mem_append, List.mem_map, List.mem_flatMap, List.mem_filter] at hx
        rcases hx with (⟨y, hy, rfl⟩ | ⟨y, hy, rfl⟩) | ⟨y, hy, z, ⟨hz, _⟩, rfl⟩
        · obtain ⟨a1, a2, a3, a4⟩ := i1 y hy
          obtain ⟨b1, b2, b3⟩ := parT_ok a2 (hps q (by simp)) a3 (hcp q (by simp))
          exact ⟨a1, b1, b2, by dsimp only; omega⟩
        · obtain ⟨a1, a2, a3, a4⟩ := i2 y hy
          obtain ⟨b1, b2, b3⟩ := parT_ok (hps p (by simp)) a2 (hcp p (by simp)) a3
          exact ⟨a1, b1, b2, by dsimp only; omega⟩
        · obtain ⟨a1, a2, a3, a4⟩ := i1 y hy
          obtain ⟨c1, c2, c3, c4⟩ := i2 z hz
          obtain ⟨b1, b2, b3⟩ := parT_ok a2 c2 a3 c3
          exact ⟨by dsimp only; omega, b1, b2, by dsimp only; omega⟩
    · obtain ⟨p, rfl⟩ := List.length_eq_one_iff.mp hl
      have i1 := ih p (by simp) (hps p (by simp)) (hcp p (by simp))
      have e1 : f * (1 + Tm.cnts [p]) = f + f * p.cnt := by simp only [Tm.cnts, Nat.mul_add]; omega
      rw [e1]
      simp only [Tm.sts, List.getD_cons_zero] at hx
      rw [if_neg (by decide), if_neg (by decide), if_neg (by decide), if_pos trivial] at hx
      simp only [hideL, List.mem_map, List.mem_filter] at hx
      obtain ⟨y, ⟨hy, _⟩, rfl⟩ := hx
      obtain ⟨a1, a2, a3, a4⟩ := i1 y hy
      obtain ⟨b1, b2, b3⟩ := hideT_ok a2 a3 hn
      exact ⟨a1, b1, b2, by dsimp only; omega⟩
    · rw [if_neg (by decide), if_neg (by decide), if_neg (by decide), if_neg (by decide), if_pos rfl] at hx
      exact okS_le (hD _ x hx) (by rw [Nat.mul_add]; omega)
theorem defsOk_get {ds : List Tm} (h : defsOk ds = true) : ds.length ≤ 3 ∧ ∀ t ∈ ds, t.shape = true ∧ t.cnt ≤ 24 ∧ t.callLt ds.length = true ∧ t.bare = false := by
  simp only [defsOk, Bool.and_eq_true, decide_eq_true_eq, List.all_eq_true, Tm.fits, Tm.ok, Bool.not_eq_true'] at h
  exact ⟨h.1, fun t ht => by have := h.2 t ht; exact ⟨this.1.1.1.2, this.1.1.1.1, this.1.2, this.2⟩⟩
theorem defL_getD (ds : List Tm) (k : Nat) : (defL ds).getD k [] = if h : k < ds.length then ds[k].st [] else [] := by
  unfold defL
  by_cases h : k < ds.length
  · simp [List.getD_eq_getElem?_getD, h]
  · simp [List.getD_eq_getElem?_getD, h]
theorem defL_bound {ds : List Tm} (h : defsOk ds = true) : ∀ k, vis ((defL ds).getD k []) ≤ 24 ∧ ((defL ds).getD k []).length ≤ 576 := by
  intro k
  rw [defL_getD]
  split
  · rename_i hk
    obtain ⟨h1, h2, h3, h4⟩ := (defsOk_get h).2 _ (List.getElem_mem hk)
    have hb := Tm.st_bound [] (fun k => by simp [vis]) ds[k]
    have hw := Tm.wt_bare _ h4
    have := Nat.mul_le_mul (show ds[k].wt ≤ 24 by omega) (show ds[k].wt ≤ 24 by omega)
    exact ⟨by omega, by omega⟩
  · simp [vis]
theorem defL_ok {ds : List Tm} (h : defsOk ds = true) : ∀ k x, x ∈ (defL ds).getD k [] → okS ds.length 24 x := by
  intro k x hx
  rw [defL_getD] at hx
  split at hx
  · rename_i hk
    obtain ⟨h1, h2, h3, h4⟩ := (defsOk_get h).2 _ (List.getElem_mem hk)
    exact okS_le (Tm.st_ok (m := ds.length) [] 1 (by decide) (fun k x hx => by simp at hx) ds[k] h1 h3 x hx) (by omega)
  · simp at hx
theorem Tm.steps_ok {ds : List Tm} (h : defsOk ds = true) {t : Tm} (h1 : t.shape = true) (h2 : t.callLt ds.length = true) (h3 : t.cnt ≤ 24) : ∀ x ∈ t.steps ds, okS ds.length 576 x := fun x hx =>
  okS_le (Tm.st_ok (defL ds) 24 (by decide) (defL_ok h) t h1 h2 x hx) (by omega)
theorem Tm.steps_len {ds : List Tm} (h : defsOk ds = true) {t : Tm} (h3 : t.cnt ≤ 24) : (t.steps ds).length ≤ 331776 := by
  have h1 := (Tm.st_bound (defL ds) (defL_bound h) t).2
  have h2 := Tm.wt_le t
  have := Nat.mul_le_mul (show t.wt ≤ 576 by omega) (show t.wt ≤ 576 by omega)
  unfold Tm.steps; omega
--END
end Go.Proofs.YthbodgnoadlbcaaGreatDoor.Asl
