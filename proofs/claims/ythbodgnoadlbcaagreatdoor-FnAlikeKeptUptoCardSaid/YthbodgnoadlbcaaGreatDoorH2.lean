/- The graph of a term and the term's steps. -/
import Derived.Test.YthbodgnoadlbcaaGreatDoorH1
import Derived.Test.YthbodgnoadlbcaaGreatDoorK2
import Derived.Test.YthbodgnoadlbcaaGreatDoorPP
namespace Go.Proofs.YthbodgnoadlbcaaGreatDoor.Asl
set_option linter.unusedVariables false
set_option linter.unusedSimpArgs false
set_option maxHeartbeats 4000000
theorem idxT_get {S : List Tm} {w : List UInt8} (h : idxT S w < S.length) : ∃ u, S[idxT S w]? = some u ∧ u.txt = w := by
  refine ⟨S[idxT S w], List.getElem?_eq_getElem h, ?_⟩
  have := List.findIdx_getElem (xs := S) (p := fun u : Tm => decide (u.txt = w)) (w := h)
  exact of_decide_eq_true this
structure LInv (ds S : List Tm) (L : List Stp) (z : List Tm × List Mv) : Prop where
  pre : ∃ N, z.1 = S ++ N
  ok : StOk ds z.1
  fwd : ∀ m ∈ z.2, 0 ≤ m.2 ∧ ∃ y ∈ L, y.1 = m.1 ∧ z.1[m.2.toNat]? = some y.2
  bwd : ∀ y ∈ L, ∃ m ∈ z.2, m.1 = y.1 ∧ z.1[m.2.toNat]? = some y.2
  new : ∀ j, S.length ≤ j → j < z.1.length → ∃ m ∈ z.2, m.2.toNat = j
theorem get_pre {S N : List Tm} {k : Nat} {u : Tm} (h : S[k]? = some u) : (S ++ N)[k]? = some u := by
  have hk : k < S.length := by
    rcases Nat.lt_or_ge k S.length with hk | hk
    · exact hk
    · rw [List.getElem?_eq_none hk] at h; cases h
  rw [List.getElem?_append_left hk]; exact h
theorem look1_inv {ds S : List Tm} {c : Nat} {L : List Stp} {z z' : List Tm × List Mv} {y : Stp} (h : LInv ds S L z) (hy : okS ds.length c y) (e : look1 z y = some z') : LInv ds S (L ++ [y]) z' := by
  obtain ⟨⟨N, hN⟩, hok, hf, hb, hn⟩ := h
  have hok' := (look1_ok hok hy e).1
  unfold look1 at e
  split at e
  · rename_i hlt
    cases e
    obtain ⟨u, hu, hut⟩ := idxT_get hlt
    have hum : u ∈ z.1 := List.mem_of_getElem? hu
    have huy : u = y.2 := txt_inj (hok.ok u hum).1 hy.2.1 hut
    subst huy
    refine ⟨⟨N, hN⟩, hok', fun m hm => ?_, fun y' hy' => ?_, fun j h1 h2 => ?_⟩
    · rcases List.mem_append.mp hm with hm | hm
      · obtain ⟨a, y', b, c, d⟩ := hf m hm
        exact ⟨a, y', by simp [b], c, d⟩
      · simp only [List.mem_singleton] at hm; subst hm
        exact ⟨by simp only; omega, y, by simp, rfl, by simpa using hu⟩
    · rcases List.mem_append.mp hy' with hy' | hy'
      · obtain ⟨m, a, b, c⟩ := hb y' hy'
        exact ⟨m, by simp [a], b, c⟩
      · simp only [List.mem_singleton] at hy'; subst hy'
        exact ⟨_, List.mem_append_right _ (List.mem_singleton.mpr rfl), rfl, by simpa using hu⟩
    · obtain ⟨m, a, b⟩ := hn j h1 h2
      exact ⟨m, by simp [a], b⟩
  · split at e
    · cases e
    · cases e
      have hlast : (z.1 ++ [y.2])[z.1.length]? = some y.2 := by simp
      refine ⟨⟨N ++ [y.2], by rw [hN, List.append_assoc]⟩, hok', fun m hm => ?_, fun y' hy' => ?_, fun j h1 h2 => ?_⟩
      · rcases List.mem_append.mp hm with hm | hm
        · obtain ⟨a, y', b, c, d⟩ := hf m hm
          exact ⟨a, y', by simp [b], c, get_pre d⟩
        · simp only [List.mem_singleton] at hm; subst hm
          exact ⟨by simp only; omega, y, by simp, rfl, by simp⟩
      · rcases List.mem_append.mp hy' with hy' | hy'
        · obtain ⟨m, a, b, c⟩ := hb y' hy'
          exact ⟨m, by simp [a], b, get_pre c⟩
        · simp only [List.mem_singleton] at hy'; subst hy'
          exact ⟨_, List.mem_append_right _ (List.mem_singleton.mpr rfl), rfl, by simp⟩
      · simp only [List.length_append, List.length_singleton] at h2
        by_cases hj : j = z.1.length
        · subst hj
          exact ⟨_, List.mem_append_right _ (List.mem_singleton.mpr rfl), by simp⟩
        · obtain ⟨m, a, b⟩ := hn j h1 (by omega)
          exact ⟨m, by simp [a], b⟩
theorem lookL_inv {ds S : List Tm} {c : Nat} (hS : StOk ds S) : ∀ (L L0 : List Stp) (z z' : List Tm × List Mv), LInv ds S L0 z → (∀ y ∈ L, okS ds.length c y) → L.foldlM look1 z = some z' → LInv ds S (L0 ++ L) z' := by
  intro L
  induction L with
  | nil => intro L0 z z' h _ e; simp at e; subst e; simpa using h
  | cons y L ih =>
    intro L0 z z' h hy e
    rw [List.foldlM_cons] at e
    cases h1 : look1 z y with
    | none => rw [h1] at e; simp at e
    | some z1 =>
      rw [h1] at e
      have := ih (L0 ++ [y]) z1 z' (look1_inv h (hy y (by simp)) h1) (fun y hy' => hy y (by simp [hy'])) (by simpa using e)
      simpa using this
structure GrP (ds : List Tm) (t : Tm) (S : List Tm) (g : Gr) : Prop where
  ok : StOk ds S
  head : S[0]? = some t
  len : g.length ≤ S.length
  fwd : ∀ k, k < g.length → ∀ m ∈ rowOf g k, 0 ≤ m.2 ∧ ∃ y ∈ (S.getD k nilT).steps ds, y.1 = m.1 ∧ S[m.2.toNat]? = some y.2
  bwd : ∀ k, k < g.length → ∀ y ∈ (S.getD k nilT).steps ds, ∃ m ∈ rowOf g k, m.1 = y.1 ∧ S[m.2.toNat]? = some y.2
  srt : ∀ l ∈ g, Srt l
  reach : ∀ j, 0 < j → j < S.length → ∃ k, k < j ∧ k < g.length ∧ ∃ m ∈ rowOf g k, m.2.toNat = j
theorem grow1_inv {ds : List Tm} {t : Tm} (hd : defsOk ds = true) {x x' : List Tm × Gr} (h : GrP ds t x.1 x.2) (hlt : x.2.length < x.1.length) (e : grow1 ds x = some x') : GrP ds t x'.1 x'.2 ∧ x'.2.length = x.2.length + 1 := by
  unfold grow1 at e
  cases h1 : lookL x.1 ((x.1.getD x.2.length nilT).steps ds) with
  | none => rw [h1] at e; simp at e
  | some z =>
    rw [h1] at e
    simp only [Option.map_some, Option.some.injEq] at e
    subst e
    have hu : x.1.getD x.2.length nilT ∈ x.1 := by simp [List.getD_eq_getElem?_getD, hlt]
    obtain ⟨a1, a2, a3⟩ := h.ok.ok _ hu
    have hI : LInv ds x.1 ((x.1.getD x.2.length nilT).steps ds) z := by
      have := lookL_inv (c := 576) h.ok ((x.1.getD x.2.length nilT).steps ds) [] (x.1, []) z ⟨⟨[], by simp⟩, h.ok, by simp, by simp, fun j p q => absurd q (by simp only; omega)⟩ (Tm.steps_ok hd a1 a2 a3) h1
      simpa using this
    obtain ⟨⟨N, hN⟩, hok, hf, hb, hn⟩ := hI
    have hrow : ∀ k, k < x.2.length → rowOf (x.2 ++ [tidyL z.2]) k = rowOf x.2 k := fun k hk => by
      simp [rowOf, List.getD_eq_getElem?_getD, List.getElem?_append_left hk]
    have hlast : rowOf (x.2 ++ [tidyL z.2]) x.2.length = tidyL z.2 := by simp [rowOf, List.getD_eq_getElem?_getD]
    have hget : ∀ k, k < x.1.length → z.1.getD k nilT = x.1.getD k nilT := fun k hk => by
      rw [hN]; simp [List.getD_eq_getElem?_getD, List.getElem?_append_left hk]
    have hl := h.len
    refine ⟨⟨hok, by rw [hN]; exact get_pre h.head, by rw [hN]; simp only [List.length_append, List.length_singleton]; omega, ?_, ?_, ?_, ?_⟩, by simp⟩
    · intro k hk m hm
      simp only [List.length_append, List.length_singleton] at hk
      by_cases hkl : k = x.2.length
      · subst hkl
        rw [hlast, mem_tidyL] at hm
        rw [hget _ hlt]
        exact hf m hm
      · rw [hrow k (by omega)] at hm
        rw [hget k (by omega)]
        obtain ⟨a, y, b, c, d⟩ := h.fwd k (by omega) m hm
        exact ⟨a, y, b, c, by rw [hN]; exact get_pre d⟩
    · intro k hk y hy
      simp only [List.length_append, List.length_singleton] at hk
      by_cases hkl : k = x.2.length
      · subst hkl
        rw [hget _ hlt] at hy
        obtain ⟨m, a, b, c⟩ := hb y hy
        rw [hlast]
        exact ⟨m, mem_tidyL.mpr a, b, c⟩
      · rw [hget k (by omega)] at hy
        obtain ⟨m, a, b, c⟩ := h.bwd k (by omega) y hy
        rw [hrow k (by omega)]
        exact ⟨m, a, b, by rw [hN]; exact get_pre c⟩
    · intro l hl
      rcases List.mem_append.mp hl with hl | hl
      · exact h.srt l hl
      · simp only [List.mem_singleton] at hl; subst hl; exact srt_tidyL _
    · intro j h0 hj
      by_cases hjl : j < x.1.length
      · obtain ⟨k, a, b, m, c, d⟩ := h.reach j h0 hjl
        exact ⟨k, a, by simp; omega, m, by rw [hrow k b]; exact c, d⟩
      · obtain ⟨m, a, b⟩ := hn j (by omega) hj
        exact ⟨x.2.length, by omega, by simp, m, by rw [hlast]; exact mem_tidyL.mpr a, b⟩
theorem growN_inv {ds : List Tm} {t : Tm} (hd : defsOk ds = true) : ∀ (n : Nat) (x : List Tm × Gr) (g : Gr), GrP ds t x.1 x.2 → x.2.length + n = 61 → growN ds n x = some g → ∃ S, GrP ds t S g ∧ g.length = S.length := by
  intro n
  induction n with
  | zero =>
    intro x g h hn e
    have := h.len
    have := h.ok.le
    omega
  | succ n ih =>
    intro x g h hn e
    unfold growN at e
    split at e
    · rename_i hlt
      cases h1 : grow1 ds x with
      | none => rw [h1] at e; cases e
      | some y =>
        rw [h1] at e
        obtain ⟨a, b⟩ := grow1_inv hd h hlt h1
        exact ih y g a (by omega) e
    · rename_i hlt
      simp only [Option.some.injEq] at e; subst e
      have := h.len
      exact ⟨x.1, h, by omega⟩
theorem graphO_spec {ds : List Tm} {t : Tm} {g : Gr} (h : graphO ds t = some g) : ∃ S, GrP ds t S g ∧ g.length = S.length ∧ defsOk ds = true ∧ t.fits ds.length = true := by
  unfold graphO at h
  split at h
  · rename_i hc
    simp only [Bool.and_eq_true] at hc
    have h2 : t.shape = true ∧ t.callLt ds.length = true ∧ t.cnt ≤ 24 := by
      have := hc.2
      unfold Tm.fits Tm.ok at this
      simp only [Bool.and_eq_true, decide_eq_true_eq] at this
      exact ⟨this.1.1.2, this.2, this.1.1.1⟩
    obtain ⟨S, a, b⟩ := growN_inv (t := t) hc.1 61 ([t], []) g ⟨⟨by simpa using h2, by simp⟩, rfl, by simp, fun k hk => absurd hk (by simp), fun k hk => absurd hk (by simp), by simp, fun j p q => absurd q (by simp; omega)⟩ rfl h
    exact ⟨S, a, b, hc.1, hc.2⟩
  · cases h
theorem GrP.gok {ds : List Tm} {t : Tm} {S : List Tm} {g : Gr} (hd : defsOk ds = true) (h : GrP ds t S g) (hl : g.length = S.length) : GOk g := by
  have h0 : 0 < S.length := by
    have := h.head
    rcases Nat.lt_or_ge 0 S.length with h | h
    · exact h
    · rw [List.getElem?_eq_none h] at this; cases this
  refine ⟨by omega, by have := h.ok.le; omega, fun l hl' m hm => ?_, h.srt⟩
  obtain ⟨k, hk, rfl⟩ := List.getElem_of_mem hl'
  have e : rowOf g k = g[k] := rowOf_eq hk
  rw [← e] at hm
  obtain ⟨a, y, b, c, d⟩ := h.fwd k hk m hm
  have hkS : k < S.length := by omega
  have hu : S.getD k nilT ∈ S := by simp [List.getD_eq_getElem?_getD, hkS]
  obtain ⟨a1, a2, a3⟩ := h.ok.ok _ hu
  have hy := Tm.steps_ok hd a1 a2 a3 y b
  have : m.2.toNat < S.length := by
    rcases Nat.lt_or_ge m.2.toNat S.length with h | h
    · exact h
    · rw [List.getElem?_eq_none h] at d; cases d
  rw [← c]
  exact ⟨hy.1, a, by omega⟩
theorem GrP.whole {ds : List Tm} {t : Tm} {S : List Tm} {g : Gr} (hd : defsOk ds = true) (h : GrP ds t S g) (hl : g.length = S.length) : (reachL g).length = g.length := by
  have hg := h.gok hd hl
  obtain ⟨hF, hc, _⟩ := from_props hg hg.pos
  have hall : ∀ j, j < g.length → j ∈ fromL g 0 := by
    intro j
    induction j using Nat.strongRecOn with
    | _ j ih =>
      intro hj
      rcases Nat.eq_zero_or_pos j with rfl | h0
      · exact from_mem hg hg.pos
      · obtain ⟨k, a, b, m, c, d⟩ := h.reach j h0 (by omega)
        have := hc k (ih k a b) m c
        rwa [d] at this
  have e : reachL g = List.range g.length := by
    unfold reachL
    rw [List.filter_eq_self]
    intro a ha
    simpa using hall a (List.mem_range.mp ha)
  rw [e, List.length_range]
end Go.Proofs.YthbodgnoadlbcaaGreatDoor.Asl
