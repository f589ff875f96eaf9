/- Likeness of terms: what it has to do with that of graphs; it stays whatever is put around. -/
import Derived.Test.YthbodgnoadlbcaaGreatDoorH2
namespace Go.Proofs.YthbodgnoadlbcaaGreatDoor.Asl
set_option linter.unusedVariables false
set_option linter.unusedSimpArgs false
set_option maxHeartbeats 4000000
def TBis (ds : List Tm) (R : Tm → Tm → Prop) : Prop := ∀ t u, R t u → (∀ x ∈ t.steps ds, ∃ y ∈ u.steps ds, y.1 = x.1 ∧ R x.2 y.2) ∧ (∀ y ∈ u.steps ds, ∃ x ∈ t.steps ds, x.1 = y.1 ∧ R x.2 y.2)
def Alk (ds : List Tm) (t u : Tm) : Prop := ∃ R, TBis ds R ∧ R t u
theorem Alk.refl (ds : List Tm) (t : Tm) : Alk ds t t := ⟨Eq, by rintro t _ rfl; exact ⟨fun x hx => ⟨x, hx, rfl, rfl⟩, fun x hx => ⟨x, hx, rfl, rfl⟩⟩, rfl⟩
theorem Alk.symm {ds : List Tm} {t u : Tm} (h : Alk ds t u) : Alk ds u t := by
  obtain ⟨R, h, k⟩ := h
  exact ⟨fun a b => R b a, fun a b r => ⟨fun x hx => (h b a r).2 x hx, fun y hy => (h b a r).1 y hy⟩, k⟩
theorem steps_act (ds : List Tm) (n : Int) (p : Tm) : (Tm.node 1 n [p]).steps ds = [(n, p)] := by simp [Tm.steps, Tm.st, stF]
theorem steps_sum (ds : List Tm) (p q : Tm) : (Tm.node 2 0 [p, q]).steps ds = p.steps ds ++ q.steps ds := by simp [Tm.steps, Tm.st, stF, Tm.sts]
theorem steps_par (ds : List Tm) (p q : Tm) : (parT p q).steps ds = parL p q (p.steps ds) (q.steps ds) := by simp [Tm.steps, parT, Tm.st, stF, Tm.sts]
theorem steps_hide (ds : List Tm) (n : Int) (p : Tm) : (hideT n p).steps ds = hideL n (p.steps ds) := by simp [Tm.steps, hideT, Tm.st, stF, Tm.sts]
theorem Alk.act {ds : List Tm} {t u : Tm} (h : Alk ds t u) (n : Int) : Alk ds (.node 1 n [t]) (.node 1 n [u]) := by
  obtain ⟨R, h, k⟩ := h
  refine ⟨fun x y => R x y ∨ (x = .node 1 n [t] ∧ y = .node 1 n [u]), ?_, .inr ⟨rfl, rfl⟩⟩
  rintro x y (r | ⟨rfl, rfl⟩)
  · obtain ⟨h1, h2⟩ := h x y r
    exact ⟨fun s hs => by obtain ⟨y, a, b, c⟩ := h1 s hs; exact ⟨y, a, b, .inl c⟩, fun s hs => by obtain ⟨y, a, b, c⟩ := h2 s hs; exact ⟨y, a, b, .inl c⟩⟩
  · rw [steps_act, steps_act]
    constructor <;> intro s hs <;> simp only [List.mem_singleton] at hs <;> subst hs
    · exact ⟨(n, u), List.mem_singleton.mpr rfl, rfl, .inl k⟩
    · exact ⟨(n, t), List.mem_singleton.mpr rfl, rfl, .inl k⟩
theorem Alk.hide {ds : List Tm} {t u : Tm} (h : Alk ds t u) (n : Int) : Alk ds (hideT n t) (hideT n u) := by
  obtain ⟨R, h, k⟩ := h
  refine ⟨fun x y => ∃ p q, x = hideT n p ∧ y = hideT n q ∧ R p q, ?_, t, u, rfl, rfl, k⟩
  rintro _ _ ⟨p, q, rfl, rfl, r⟩
  obtain ⟨h1, h2⟩ := h p q r
  rw [steps_hide, steps_hide]
  unfold hideL
  constructor
  · intro s hs
    simp only [List.mem_map, List.mem_filter] at hs
    obtain ⟨x, ⟨hx, hp⟩, rfl⟩ := hs
    obtain ⟨y, a, b, c⟩ := h1 x hx
    refine ⟨(y.1, hideT n y.2), ?_, b, _, _, rfl, rfl, c⟩
    simp only [List.mem_map, List.mem_filter]
    exact ⟨y, ⟨a, by unfold hidP at *; rw [b]; exact hp⟩, rfl⟩
  · intro s hs
    simp only [List.mem_map, List.mem_filter] at hs
    obtain ⟨x, ⟨hx, hp⟩, rfl⟩ := hs
    obtain ⟨y, a, b, c⟩ := h2 x hx
    refine ⟨(y.1, hideT n y.2), ?_, b, _, _, rfl, rfl, c⟩
    simp only [List.mem_map, List.mem_filter]
    exact ⟨y, ⟨a, by unfold hidP at *; rw [b]; exact hp⟩, rfl⟩
theorem Alk.sum {ds : List Tm} {t u : Tm} (h : Alk ds t u) (z : Tm) : Alk ds (.node 2 0 [t, z]) (.node 2 0 [u, z]) := by
  obtain ⟨R, h, k⟩ := h
  refine ⟨fun x y => R x y ∨ x = y ∨ (x = .node 2 0 [t, z] ∧ y = .node 2 0 [u, z]), ?_, .inr (.inr ⟨rfl, rfl⟩)⟩
  rintro x y (r | rfl | ⟨rfl, rfl⟩)
  · obtain ⟨h1, h2⟩ := h x y r
    exact ⟨fun s hs => by obtain ⟨y, a, b, c⟩ := h1 s hs; exact ⟨y, a, b, .inl c⟩, fun s hs => by obtain ⟨y, a, b, c⟩ := h2 s hs; exact ⟨y, a, b, .inl c⟩⟩
  · exact ⟨fun s hs => ⟨s, hs, rfl, .inr (.inl rfl)⟩, fun s hs => ⟨s, hs, rfl, .inr (.inl rfl)⟩⟩
  · obtain ⟨h1, h2⟩ := h t u k
    rw [steps_sum, steps_sum]
    constructor
    · intro s hs
      rcases List.mem_append.mp hs with hs | hs
      · obtain ⟨y, a, b, c⟩ := h1 s hs
        exact ⟨y, List.mem_append_left _ a, b, .inl c⟩
      · exact ⟨s, List.mem_append_right _ hs, rfl, .inr (.inl rfl)⟩
    · intro s hs
      rcases List.mem_append.mp hs with hs | hs
      · obtain ⟨y, a, b, c⟩ := h2 s hs
        exact ⟨y, List.mem_append_left _ a, b, .inl c⟩
      · exact ⟨s, List.mem_append_right _ hs, rfl, .inr (.inl rfl)⟩
theorem Alk.par {ds : List Tm} {t u : Tm} (h : Alk ds t u) (z : Tm) : Alk ds (parT t z) (parT u z) := by
  obtain ⟨R, h, k⟩ := h
  refine ⟨fun x y => ∃ p q z, x = parT p z ∧ y = parT q z ∧ R p q, ?_, t, u, z, rfl, rfl, k⟩
  rintro _ _ ⟨p, q, z, rfl, rfl, r⟩
  obtain ⟨h1, h2⟩ := h p q r
  rw [steps_par, steps_par]
  unfold parL meetsL
  constructor
  · intro s hs
    simp only [List.mem_append, List.mem_map, List.mem_flatMap, List.mem_filter] at hs ⊢
    rcases hs with (⟨x, hx, rfl⟩ | ⟨x, hx, rfl⟩) | ⟨x, hx, y, ⟨hy, hc⟩, rfl⟩
    · obtain ⟨y, a, b, c⟩ := h1 x hx
      exact ⟨(y.1, parT y.2 z), .inl (.inl ⟨y, a, rfl⟩), b, _, _, _, rfl, rfl, c⟩
    · exact ⟨(x.1, parT q x.2), .inl (.inr ⟨x, hx, rfl⟩), rfl, _, _, _, rfl, rfl, r⟩
    · obtain ⟨x', a, b, c⟩ := h1 x hx
      exact ⟨(0, parT x'.2 y.2), .inr ⟨x', a, y, ⟨hy, by rw [b]; exact hc⟩, rfl⟩, rfl, _, _, _, rfl, rfl, c⟩
  · intro s hs
    simp only [List.mem_append, List.mem_map, List.mem_flatMap, List.mem_filter] at hs ⊢
    rcases hs with (⟨x, hx, rfl⟩ | ⟨x, hx, rfl⟩) | ⟨x, hx, y, ⟨hy, hc⟩, rfl⟩
    · obtain ⟨y, a, b, c⟩ := h2 x hx
      exact ⟨(y.1, parT y.2 z), .inl (.inl ⟨y, a, rfl⟩), b, _, _, _, rfl, rfl, c⟩
    · exact ⟨(x.1, parT p x.2), .inl (.inr ⟨x, hx, rfl⟩), rfl, _, _, _, rfl, rfl, r⟩
    · obtain ⟨x', a, b, c⟩ := h2 x hx
      exact ⟨(0, parT x'.2 y.2), .inr ⟨x', a, y, ⟨hy, by rw [b]; exact hc⟩, rfl⟩, rfl, _, _, _, rfl, rfl, c⟩
end Go.Proofs.YthbodgnoadlbcaaGreatDoor.Asl
