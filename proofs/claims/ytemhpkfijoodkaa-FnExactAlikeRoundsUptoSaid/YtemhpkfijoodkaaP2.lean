/- Graphs in plain terms: put together, parts, folds; the plain laws. -/
import Derived.Test.YtemhpkfijoodkaaP1
namespace Go.Proofs.Ytemhpkfijoodkaa.Asl

theorem both_len (a b : Gr) : (bothL a b).length = a.length + b.length := by simp [bothL]
theorem both_row_lt {a b : Gr} {s : Nat} (h : s < a.length) : rowOf (bothL a b) s = rowOf a s := by
  simp [rowOf, bothL, List.getD_eq_getElem?_getD, List.getElem?_append_left h]
theorem both_row_ge (a b : Gr) (s : Nat) : rowOf (bothL a b) (a.length + s) = (rowOf b s).map fun (m : Mv) => ((m.1, m.2 + (a.length : Int)) : Mv) := by
  unfold rowOf bothL
  rw [List.getD_eq_getElem?_getD, List.getElem?_append_right (by omega), Nat.add_sub_cancel_left, List.getElem?_map, List.getD_eq_getElem?_getD]
  cases b[s]? <;> rfl
theorem srt_shift {l : List Mv} (h : Srt l) (n : Int) : Srt (l.map fun (m : Mv) => ((m.1, m.2 + n) : Mv)) := by
  unfold Srt at *
  rw [List.pairwise_map]
  exact h.imp fun {a b} hab => by rw [mlt_iff] at *; simp only; omega
theorem both_ok {a b : Gr} (ha : GOk a) (hb : GOk b) (h : a.length + b.length ≤ 60) : GOk (bothL a b) := by
  have := ha.pos
  refine ⟨by rw [both_len]; omega, by rw [both_len]; exact h, fun l hl m hm => ?_, fun l hl => ?_⟩
  · rw [both_len]
    rcases List.mem_append.mp hl with hl | hl
    · have := ha.moves l hl m hm; omega
    · obtain ⟨l', hl', rfl⟩ := List.mem_map.mp hl
      obtain ⟨m', hm', rfl⟩ := List.mem_map.mp hm
      have := hb.moves l' hl' m' hm'
      simp only; omega
  · rcases List.mem_append.mp hl with hl | hl
    · exact ha.srt l hl
    · obtain ⟨l', hl', rfl⟩ := List.mem_map.mp hl
      exact srt_shift (hb.srt l' hl') _

/-- A likeness of states of two graphs. -/
def Bis2 (a b : Gr) (R : Nat → Nat → Prop) : Prop := ∀ s i, R s i → (s < a.length ∧ i < b.length) ∧ (∀ m ∈ rowOf a s, ∃ k ∈ rowOf b i, k.1 = m.1 ∧ R m.2.toNat k.2.toNat) ∧ (∀ k ∈ rowOf b i, ∃ m ∈ rowOf a s, m.1 = k.1 ∧ R m.2.toNat k.2.toNat)
theorem both_of_bis2 {a b : Gr} (ha : GOk a) (hb : GOk b) {R : Nat → Nat → Prop} (h : Bis2 a b R) : Bis (bothL a b) fun x y => ∃ i, y = a.length + i ∧ R x i := by
  rintro s _ ⟨i, rfl, hR⟩
  obtain ⟨⟨hs, hi⟩, h1, h2⟩ := h s i hR
  rw [both_len, both_row_lt hs, both_row_ge]
  refine ⟨⟨by omega, by omega⟩, fun m hm => ?_, fun k hk => ?_⟩
  · obtain ⟨k, hk, e, r⟩ := h1 m hm
    have := hb.to hk
    exact ⟨_, List.mem_map_of_mem hk, e, k.2.toNat, by simp only; omega, r⟩
  · obtain ⟨k, hk1, rfl⟩ := List.mem_map.mp hk
    have hk := hk1
    obtain ⟨m, hm, e, r⟩ := h2 k hk
    have := hb.to hk
    exact ⟨m, hm, e, k.2.toNat, by simp only; omega, r⟩
theorem bis2_of_both {a b : Gr} (ha : GOk a) (hb : GOk b) {R : Nat → Nat → Prop} (h : Bis (bothL a b) R) : Bis2 a b fun s i => (s < a.length ∧ i < b.length) ∧ R s (a.length + i) := by
  rintro s i ⟨⟨hs, hi⟩, hR⟩
  obtain ⟨_, h1, h2⟩ := h _ _ hR
  rw [both_row_lt hs, both_row_ge] at h1 h2
  refine ⟨⟨hs, hi⟩, fun m hm => ?_, fun k hk => ?_⟩
  · obtain ⟨k, hk, e, r⟩ := h1 m hm
    obtain ⟨k, hk1, rfl⟩ := List.mem_map.mp hk
    have hk := hk1
    have h3 := ha.to hm
    have h4 := hb.to hk
    refine ⟨k, hk, e, ⟨by omega, by omega⟩, ?_⟩
    rwa [show (k.2 + (a.length : Int)).toNat = a.length + k.2.toNat by omega] at r
  · obtain ⟨m, hm, e, r⟩ := h2 _ (List.mem_map_of_mem hk)
    have h3 := ha.to hm
    have h4 := hb.to hk
    refine ⟨m, hm, e, ⟨by omega, by omega⟩, ?_⟩
    rwa [show (k.2 + (a.length : Int)).toNat = a.length + k.2.toNat by omega] at r
theorem both_iff {a b : Gr} (ha : GOk a) (hb : GOk b) (h60 : a.length + b.length ≤ 60) {s i : Nat} (hs : s < a.length) (hi : i < b.length) :
    (lastC (bothL a b)).getD s 0 = (lastC (bothL a b)).getD (a.length + i) 0 ↔ ∃ R, Bis2 a b R ∧ R s i := by
  rw [last_iff (both_ok ha hb h60) (by rw [both_len]; omega) (by rw [both_len]; omega)]
  constructor
  · rintro ⟨R, h, k⟩
    exact ⟨_, bis2_of_both ha hb h, ⟨hs, hi⟩, k⟩
  · rintro ⟨R, h, k⟩
    exact ⟨_, both_of_bis2 ha hb h, i, rfl, k⟩
/-- Put together, the first graph's states are alike just if they are alone. -/
theorem both_left {a b : Gr} (ha : GOk a) (hb : GOk b) (h60 : a.length + b.length ≤ 60) {s t : Nat} (hs : s < a.length) (ht : t < a.length) :
    (lastC (bothL a b)).getD s 0 = (lastC (bothL a b)).getD t 0 ↔ (lastC a).getD s 0 = (lastC a).getD t 0 := by
  rw [last_iff (both_ok ha hb h60) (by rw [both_len]; omega) (by rw [both_len]; omega), last_iff ha hs ht]
  constructor
  · rintro ⟨R, h, k⟩
    refine ⟨fun x y => (x < a.length ∧ y < a.length) ∧ R x y, ?_, ⟨hs, ht⟩, k⟩
    rintro x y ⟨⟨hx, hy⟩, hR⟩
    obtain ⟨_, h1, h2⟩ := h x y hR
    rw [both_row_lt hx, both_row_lt hy] at h1 h2
    refine ⟨⟨hx, hy⟩, fun m hm => ?_, fun k hk => ?_⟩
    · obtain ⟨k, hk, e, r⟩ := h1 m hm
      have := ha.to hm
      have := ha.to hk
      exact ⟨k, hk, e, ⟨by omega, by omega⟩, r⟩
    · obtain ⟨m, hm, e, r⟩ := h2 k hk
      have := ha.to hm
      have := ha.to hk
      exact ⟨m, hm, e, ⟨by omega, by omega⟩, r⟩
  · rintro ⟨R, h, k⟩
    refine ⟨R, ?_, k⟩
    intro x y hR
    obtain ⟨⟨hx, hy⟩, h1, h2⟩ := h x y hR
    rw [both_row_lt hx, both_row_lt hy, both_len]
    exact ⟨⟨by omega, by omega⟩, h1, h2⟩
theorem both_right {a b : Gr} (ha : GOk a) (hb : GOk b) (h60 : a.length + b.length ≤ 60) {s t : Nat} (hs : s < b.length) (ht : t < b.length) :
    (lastC (bothL a b)).getD (a.length + s) 0 = (lastC (bothL a b)).getD (a.length + t) 0 ↔ (lastC b).getD s 0 = (lastC b).getD t 0 := by
  rw [last_iff (both_ok ha hb h60) (by rw [both_len]; omega) (by rw [both_len]; omega), last_iff hb hs ht]
  constructor
  · rintro ⟨R, h, k⟩
    refine ⟨fun x y => (x < b.length ∧ y < b.length) ∧ R (a.length + x) (a.length + y), ?_, ⟨hs, ht⟩, k⟩
    rintro x y ⟨⟨hx, hy⟩, hR⟩
    obtain ⟨_, h1, h2⟩ := h _ _ hR
    rw [both_row_ge, both_row_ge] at h1 h2
    refine ⟨⟨hx, hy⟩, fun m hm => ?_, fun k hk => ?_⟩
    · obtain ⟨k, hk, e, r⟩ := h1 _ (List.mem_map_of_mem hm)
      obtain ⟨k, hk1, rfl⟩ := List.mem_map.mp hk
      have hk := hk1
      have h3 := hb.to hm
      have h4 := hb.to hk
      refine ⟨k, hk, e, ⟨by omega, by omega⟩, ?_⟩
      rwa [show (k.2 + (a.length : Int)).toNat = a.length + k.2.toNat by omega, show (m.2 + (a.length : Int)).toNat = a.length + m.2.toNat by omega] at r
    · obtain ⟨m, hm, e, r⟩ := h2 _ (List.mem_map_of_mem hk)
      obtain ⟨m, hm1, rfl⟩ := List.mem_map.mp hm
      have hm := hm1
      have h3 := hb.to hm
      have h4 := hb.to hk
      refine ⟨m, hm, e, ⟨by omega, by omega⟩, ?_⟩
      rwa [show (k.2 + (a.length : Int)).toNat = a.length + k.2.toNat by omega, show (m.2 + (a.length : Int)).toNat = a.length + m.2.toNat by omega] at r
  · rintro ⟨R, h, k⟩
    refine ⟨fun x y => ∃ i j, x = a.length + i ∧ y = a.length + j ∧ R i j, ?_, s, t, rfl, rfl, k⟩
    rintro _ _ ⟨x, y, rfl, rfl, hR⟩
    obtain ⟨⟨hx, hy⟩, h1, h2⟩ := h x y hR
    rw [both_row_ge, both_row_ge, both_len]
    refine ⟨⟨by omega, by omega⟩, fun m hm => ?_, fun k hk => ?_⟩
    · obtain ⟨m, hm1, rfl⟩ := List.mem_map.mp hm
      have hm := hm1
      obtain ⟨k, hk, e, r⟩ := h1 m hm
      have h3 := hb.to hm
      have h4 := hb.to hk
      exact ⟨_, List.mem_map_of_mem hk, e, m.2.toNat, k.2.toNat, by simp only; omega, by simp only; omega, r⟩
    · obtain ⟨k, hk1, rfl⟩ := List.mem_map.mp hk
      have hk := hk1
      obtain ⟨m, hm, e, r⟩ := h2 k hk
      have h3 := hb.to hm
      have h4 := hb.to hk
      exact ⟨_, List.mem_map_of_mem hm, e, m.2.toNat, k.2.toNat, by simp only; omega, by simp only; omega, r⟩

/-- A graph of some states, numbered anew by f; r tells which move one becomes. -/
theorem map_row {α : Type} {l : List α} {f : α → List Mv} {i : Nat} {x : α} (h : l[i]? = some x) : rowOf (l.map f) i = f x := by
  simp [rowOf, List.getD_eq_getElem?_getD, h]
theorem part_len (g : Gr) (s : Nat) : (partL g s).length = (fromL g s).length := by simp [partL]
theorem part_mem {g : Gr} {s i k : Nat} (h : (fromL g s)[i]? = some k) {m : Mv} : m ∈ rowOf (partL g s) i ↔ ∃ m' ∈ rowOf g k, m = (m'.1, (((fromL g s).idxOf m'.2.toNat : Nat) : Int)) := by
  unfold partL
  rw [map_row h, mem_tidyL, List.mem_map]
  constructor <;> (rintro ⟨m', h1, h2⟩; exact ⟨m', h1, h2.symm⟩)
theorem getElem?_idxOf {l : List Nat} {x : Nat} (h : x ∈ l) : l[l.idxOf x]? = some x := by
  have hl := List.idxOf_lt_length_iff.mpr h
  rw [List.getElem?_eq_getElem hl, List.getElem_idxOf hl]
theorem part_ok {g : Gr} (hg : GOk g) {s : Nat} (hs : s < g.length) : GOk (partL g s) := by
  obtain ⟨hF, hc, _⟩ := from_props hg hs
  refine ⟨by rw [part_len]; exact hF.pos, by rw [part_len]; have := hF.len; have := hg.most; omega, fun l hl m hm => ?_, fun l hl => ?_⟩
  · unfold partL at hl
    obtain ⟨k, hk, rfl⟩ := List.mem_map.mp hl
    rw [mem_tidyL, List.mem_map] at hm
    obtain ⟨m', hm', rfl⟩ := hm
    have := hg.to hm'
    have := List.idxOf_lt_length_iff.mpr (hc k hk m' hm')
    rw [part_len]
    simp only; omega
  · unfold partL at hl
    obtain ⟨k, hk, rfl⟩ := List.mem_map.mp hl
    exact srt_tidyL _
theorem part_bis {g : Gr} (hg : GOk g) {s : Nat} (hs : s < g.length) : Bis2 g (partL g s) fun k i => (fromL g s)[i]? = some k := by
  obtain ⟨hF, hc, _⟩ := from_props hg hs
  intro k i h
  have hk := List.mem_of_getElem? h
  have hi : i < (fromL g s).length := by
    rcases Nat.lt_or_ge i (fromL g s).length with h1 | h1
    · exact h1
    · rw [List.getElem?_eq_none h1] at h; cases h
  refine ⟨⟨hF.lt k hk, by rw [part_len]; exact hi⟩, fun m hm => ?_, fun m hm => ?_⟩
  · exact ⟨_, (part_mem h).mpr ⟨m, hm, rfl⟩, rfl, by simpa using getElem?_idxOf (hc k hk m hm)⟩
  · obtain ⟨m', hm', rfl⟩ := (part_mem h).mp hm
    exact ⟨m', hm', rfl, by simpa using getElem?_idxOf (hc k hk m' hm')⟩
/-- A part goes on as the state does. -/
theorem part_law {g : Gr} (hg : GOk g) {s : Nat} (hs : s < g.length) (h60 : g.length + (partL g s).length ≤ 60) : (lastC (bothL g (partL g s))).getD s 0 = (lastC (bothL g (partL g s))).getD g.length 0 := by
  have := (both_iff hg (part_ok hg hs) h60 hs (i := 0) (by rw [part_len]; exact (from_props hg hs).1.pos)).mpr ⟨_, part_bis hg hs, (from_props hg hs).1.first⟩
  simpa using this

theorem count_range : ∀ (n : Nat) (l : List Nat), l.Nodup → (∀ x ∈ l, x < n) → ((List.range n).filter fun x => decide (x ∈ l)).length = l.length := by
  intro n
  induction n with
  | zero =>
    intro l _ h
    cases l with
    | nil => rfl
    | cons x l => have := h x (by simp); omega
  | succ n ih =>
    intro l hn h
    rw [List.range_succ, List.filter_append, List.length_append]
    by_cases hm : n ∈ l
    · have h1 := ih (l.erase n) (hn.erase n) (fun x hx => by
        have h2 := (hn.mem_erase_iff).mp hx
        have := h x h2.2
        have := h2.1; omega)
      rw [List.length_erase_of_mem hm] at h1
      have h3 : (List.range n).filter (fun x => decide (x ∈ l)) = (List.range n).filter (fun x => decide (x ∈ l.erase n)) := by
        apply List.filter_congr
        intro x hx
        simp at hx
        rw [decide_eq_decide, hn.mem_erase_iff]
        constructor
        · intro h; exact ⟨by omega, h⟩
        · intro h; exact h.2
      rw [h3, h1]
      have : 0 < l.length := List.length_pos_of_mem hm
      simp [hm]; omega
    · have := ih l hn (fun x hx => by
        have := h x hx
        have : x ≠ n := fun e => hm (e ▸ hx)
        omega)
      rw [this]; simp [hm]
theorem reach_len {g : Gr} (hg : GOk g) : (reachL g).length = (fromL g 0).length :=
  count_range _ _ (from_props hg hg.pos).1.nodup (from_props hg hg.pos).1.lt
theorem last_zero (g : Gr) : (lastC g).getD 0 0 = 0 := by
  rcases Nat.eq_zero_or_pos (lastC g).length with h | h
  · simp [List.getD_eq_getElem?_getD, List.getElem?_eq_none (show (lastC g).length ≤ 0 by omega)]
  · have := (lastC_canon g).le 0 h; omega
theorem reach_closed {g : Gr} (hg : GOk g) {k : Nat} (hk : k ∈ reachL g) {m : Mv} (hm : m ∈ rowOf g k) : m.2.toNat ∈ reachL g := by
  unfold reachL at *
  simp only [List.mem_filter, List.mem_range, decide_eq_true_eq] at *
  exact ⟨(hg.to hm).2.2.2.1, (from_props hg hg.pos).2.1 k hk.2 m hm⟩
theorem reach_pairwise (g : Gr) : (reachL g).Pairwise (· < ·) := List.Pairwise.filter _ List.pairwise_lt_range
theorem reach_zero {g : Gr} (hg : GOk g) : (reachL g)[0]? = some 0 := by
  have h0 : 0 ∈ fromL g 0 := from_mem hg hg.pos
  unfold reachL
  have := hg.pos
  obtain ⟨n, hn⟩ : ∃ n, g.length = n + 1 := ⟨g.length - 1, by omega⟩
  rw [hn, List.range_succ_eq_map, List.filter_cons, if_pos (by simpa using h0)]
  rfl

theorem reps_get_idx {c : List Nat} (hc : Canon c) {s : Nat} (hs : s < c.length) : (reps c)[(reps c).idxOf (c.getD s 0)]? = some (c.getD s 0) :=
  getElem?_idxOf (mem_reps.mpr ⟨by have := hc.le s hs; omega, hc.idem s hs⟩)
theorem fold_len (g : Gr) (c : List Nat) : (foldG g c).length = (reps c).length := by simp [foldG]
theorem fold_mem {g : Gr} {c : List Nat} {i s : Nat} (h : (reps c)[i]? = some s) {m : Mv} : m ∈ rowOf (foldG g c) i ↔ ∃ m' ∈ rowOf g s, m = (m'.1, (((reps c).idxOf (c.getD m'.2.toNat 0) : Nat) : Int)) := by
  unfold foldG
  rw [map_row h, mem_tidyL, List.mem_map]
  constructor <;> (rintro ⟨m', h1, h2⟩; exact ⟨m', h1, h2.symm⟩)
theorem fold_ok {g : Gr} (hg : GOk g) : GOk (foldG g (lastC g)) := by
  have hc := lastC_canon g
  have hl := lastC_len g
  have h0 := hg.pos
  have hz : (0 : Nat) ∈ reps (lastC g) := mem_reps.mpr ⟨by omega, last_zero g⟩
  refine ⟨by rw [fold_len]; exact List.length_pos_of_mem hz, by rw [fold_len]; have := reps_le (lastC g); have := hg.most; omega, fun l hl' m hm => ?_, fun l hl' => ?_⟩
  · unfold foldG at hl'
    obtain ⟨k, hk, rfl⟩ := List.mem_map.mp hl'
    rw [mem_tidyL, List.mem_map] at hm
    obtain ⟨m', hm', rfl⟩ := hm
    have h1 := hg.to hm'
    have hr := reps_get_idx hc (s := m'.2.toNat) (by omega)
    have : (reps (lastC g)).idxOf ((lastC g).getD m'.2.toNat 0) < (reps (lastC g)).length := by
      rcases Nat.lt_or_ge ((reps (lastC g)).idxOf ((lastC g).getD m'.2.toNat 0)) (reps (lastC g)).length with h | h
      · exact h
      · rw [List.getElem?_eq_none h] at hr; cases hr
    rw [fold_len]
    simp only; omega
  · unfold foldG at hl'
    obtain ⟨k, hk, rfl⟩ := List.mem_map.mp hl'
    exact srt_tidyL _
/-- A state and its class. -/
theorem fold_bis {g : Gr} (hg : GOk g) : Bis2 g (foldG g (lastC g)) fun s i => s < g.length ∧ (reps (lastC g))[i]? = some ((lastC g).getD s 0) := by
  have hc := lastC_canon g
  have hl := lastC_len g
  rintro s i ⟨hs, h⟩
  have hi : i < (reps (lastC g)).length := by
    rcases Nat.lt_or_ge i (reps (lastC g)).length with h1 | h1
    · exact h1
    · rw [List.getElem?_eq_none h1] at h; cases h
  have hle := hc.le s (by omega)
  have hb := last_bis hg s ((lastC g).getD s 0) ⟨⟨hs, by omega⟩, (hc.idem s (by omega)).symm⟩
  refine ⟨⟨hs, by rw [fold_len]; exact hi⟩, fun m hm => ?_, fun m hm => ?_⟩
  · obtain ⟨k, hk, e, r⟩ := hb.2.1 m hm
    have h1 := hg.to hm
    refine ⟨_, (fold_mem h).mpr ⟨k, hk, rfl⟩, e, h1.2.2.2.1, ?_⟩
    have h2 := hg.to hk
    have := reps_get_idx hc (s := k.2.toNat) (by omega)
    rw [r.2]; simpa using this
  · obtain ⟨m', hm', rfl⟩ := (fold_mem h).mp hm
    obtain ⟨k, hk, e, r⟩ := hb.2.2 m' hm'
    have h1 := hg.to hk
    refine ⟨k, hk, e, h1.2.2.2.1, ?_⟩
    have h2 := hg.to hm'
    have := reps_get_idx hc (s := m'.2.toNat) (by omega)
    rw [r.2]; simpa using this
theorem getD_some {l : List Nat} {i x : Nat} (h : l[i]? = some x) : l.getD i 0 = x := by simp [List.getD_eq_getElem?_getD, h]
/-- What is folded has no two states that are alike. -/
theorem fold_last {g : Gr} (hg : GOk g) {i : Nat} (hi : i < (foldG g (lastC g)).length) : (lastC (foldG g (lastC g))).getD i 0 = i := by
  have hc := lastC_canon g
  have hl := lastC_len g
  have hfo := fold_ok hg
  have hfc := lastC_canon (foldG g (lastC g))
  have hfl := lastC_len (foldG g (lastC g))
  generalize hj : (lastC (foldG g (lastC g))).getD i 0 = j
  have hjl : j < (foldG g (lastC g)).length := by have := hfc.le i (by omega); omega
  have hsame : (lastC (foldG g (lastC g))).getD i 0 = (lastC (foldG g (lastC g))).getD j 0 := by rw [← hj]; exact (hfc.idem i (by omega)).symm
  obtain ⟨R, hR, hij⟩ := (last_iff hfo hi hjl).mp hsame
  -- lifted to the graph
  have hB : Bis g fun s t => (s < g.length ∧ t < g.length) ∧ ∃ a b, (reps (lastC g))[a]? = some ((lastC g).getD s 0) ∧ (reps (lastC g))[b]? = some ((lastC g).getD t 0) ∧ R a b := by
    rintro s t ⟨⟨hs, ht⟩, a, b, ha, hb, hab⟩
    obtain ⟨_, s1, s2⟩ := fold_bis hg s a ⟨hs, ha⟩
    obtain ⟨_, t1, t2⟩ := fold_bis hg t b ⟨ht, hb⟩
    obtain ⟨_, r1, r2⟩ := hR a b hab
    refine ⟨⟨hs, ht⟩, fun m hm => ?_, fun k hk => ?_⟩
    · obtain ⟨m1, hm1, e1, q1⟩ := s1 m hm
      obtain ⟨m2, hm2, e2, q2⟩ := r1 m1 hm1
      obtain ⟨m3, hm3, e3, q3⟩ := t2 m2 hm2
      exact ⟨m3, hm3, e3.trans (e2.trans e1), ⟨q1.1, q3.1⟩, _, _, q1.2, q3.2, q2⟩
    · obtain ⟨m1, hm1, e1, q1⟩ := t1 k hk
      obtain ⟨m2, hm2, e2, q2⟩ := r2 m1 hm1
      obtain ⟨m3, hm3, e3, q3⟩ := s2 m2 hm2
      exact ⟨m3, hm3, e3.trans (e2.trans e1), ⟨q3.1, q1.1⟩, _, _, q3.2, q1.2, q2⟩
  rw [fold_len] at hi hjl
  obtain ⟨s, hs⟩ : ∃ s, (reps (lastC g))[i]? = some s := ⟨_, List.getElem?_eq_getElem hi⟩
  obtain ⟨t, ht⟩ : ∃ t, (reps (lastC g))[j]? = some t := ⟨_, List.getElem?_eq_getElem hjl⟩
  have hsm := mem_reps.mp (List.mem_of_getElem? hs)
  have htm := mem_reps.mp (List.mem_of_getElem? ht)
  have := bis_last hB (s := s) (t := t) ⟨⟨by omega, by omega⟩, i, j, by rw [hsm.2]; exact hs, by rw [htm.2]; exact ht, hij⟩
  rw [hsm.2, htm.2] at this
  subst this
  exact ((List.getElem?_inj hi (reps_nodup _)).mp (hs.trans ht.symm)).symm
theorem id_reps {c : List Nat} (h : ∀ i, i < c.length → c.getD i 0 = i) : reps c = List.range c.length := by
  unfold reps
  rw [List.filter_eq_self]
  intro i hi
  simp at hi
  simpa using h i hi
theorem idxOf_range {n i : Nat} (h : i < n) : (List.range n).idxOf i = i := by
  have h1 := getElem?_idxOf (l := List.range n) (x := i) (by simpa using h)
  have h2 : (List.range n)[i]? = some i := by simp [h]
  have hl : i < (List.range n).length := by simpa using h
  exact ((List.getElem?_inj hl List.nodup_range).mp (h2.trans h1.symm)).symm
theorem map_same {l : List Mv} {f : Mv → Mv} (h : ∀ m ∈ l, f m = m) : l.map f = l := by
  have := List.map_congr_left h; rw [this]; simp
/-- What is folded cannot be folded. -/
theorem fold_again {g : Gr} (hg : GOk g) : foldG (foldG g (lastC g)) (lastC (foldG g (lastC g))) = foldG g (lastC g) := by
  generalize hf : foldG g (lastC g) = f
  have hfo : GOk f := hf ▸ fold_ok hg
  have hid : ∀ i, i < f.length → (lastC f).getD i 0 = i := fun i hi => by subst hf; exact fold_last hg hi
  have hl := lastC_len f
  unfold foldG
  rw [id_reps (fun i hi => hid i (by omega)), hl]
  apply List.ext_getElem (by simp)
  intro i h1 h2
  rw [List.getElem_map, List.getElem_range]
  have hrow : f[i] = rowOf f i := (rowOf_eq h2).symm
  rw [hrow]
  rw [map_same, tidyL_self (hfo.srtRow i)]
  intro m hm
  have := hfo.to hm
  rw [hid _ this.2.2.2.1, idxOf_range this.2.2.2.1, this.2.2.2.2]
/-- What is folded goes on in the same way. -/
theorem fold_first {g : Gr} (hg : GOk g) (h60 : g.length + (foldG g (lastC g)).length ≤ 60) : (lastC (bothL g (foldG g (lastC g)))).getD g.length 0 = 0 := by
  have h0 := hg.pos
  have hl := lastC_len g
  have hz : (0 : Nat) ∈ reps (lastC g) := mem_reps.mpr ⟨by omega, last_zero g⟩
  have h00 : (reps (lastC g))[0]? = some 0 := by
    unfold reps
    obtain ⟨n, hn⟩ : ∃ n, (lastC g).length = n + 1 := ⟨(lastC g).length - 1, by omega⟩
    rw [hn, List.range_succ_eq_map, List.filter_cons, if_pos (by have := last_zero g; simpa using this)]
    rfl
  have := (both_iff hg (fold_ok hg) h60 (s := 0) (i := 0) hg.pos (by have := (fold_ok hg).pos; omega)).mpr ⟨_, fold_bis hg, hg.pos, by rw [last_zero]; exact h00⟩
  rw [Nat.add_zero] at this
  rw [← this]; exact last_zero _
/-- No likeness tells more than the classes. -/
theorem rel_last {g : Gr} {rel : List (List Bool)} (h : RelOk g rel) {s t : Nat} (hs : s < g.length) (ht : t < g.length) (hr : (rel.getD s []).getD t false = true) : (lastC g).getD s 0 = (lastC g).getD t 0 := by
  refine bis_last (R := fun s t => (s < g.length ∧ t < g.length) ∧ (rel.getD s []).getD t false = true) ?_ ⟨⟨hs, ht⟩, hr⟩
  rintro s t ⟨⟨hs, ht⟩, hr⟩
  refine ⟨⟨hs, ht⟩, fun m hm => ?_, fun k hk => ?_⟩
  · obtain ⟨k, hk, e, r⟩ := h.fwd s t hs ht hr m hm
    exact ⟨k, hk, e, ⟨(h.ok.to hm).2.2.2.1, (h.ok.to hk).2.2.2.1⟩, r⟩
  · obtain ⟨m, hm, e, r⟩ := h.bwd s t hs ht hr k hk
    exact ⟨m, hm, e, ⟨(h.ok.to hm).2.2.2.1, (h.ok.to hk).2.2.2.1⟩, r⟩
def classRel (c : List Nat) : List (List Bool) := (List.range c.length).map fun s => (List.range c.length).map fun t => decide (c.getD s 0 = c.getD t 0)
theorem classRel_get {c : List Nat} {s t : Nat} (hs : s < c.length) (ht : t < c.length) : ((classRel c).getD s []).getD t false = decide (c.getD s 0 = c.getD t 0) := by
  simp [classRel, List.getD_eq_getElem?_getD, hs, ht]
theorem classRel_ok {g : Gr} (hg : GOk g) : RelOk g (classRel (lastC g)) := by
  have hl := lastC_len g
  refine ⟨hg, by simp [classRel, hl], fun r hr => ?_, fun s t hs ht h m hm => ?_, fun s t hs ht h k hk => ?_⟩
  · obtain ⟨s, _, rfl⟩ := List.mem_map.mp hr; simp [hl]
  · rw [classRel_get (by omega) (by omega)] at h
    obtain ⟨k, hk, e, r⟩ := (last_bis hg s t ⟨⟨hs, ht⟩, by simpa using h⟩).2.1 m hm
    have := hg.to hm
    have := hg.to hk
    exact ⟨k, hk, e, by rw [classRel_get (by omega) (by omega)]; simpa using r.2⟩
  · rw [classRel_get (by omega) (by omega)] at h
    obtain ⟨m, hm, e, r⟩ := (last_bis hg s t ⟨⟨hs, ht⟩, by simpa using h⟩).2.2 k hk
    have := hg.to hm
    have := hg.to hk
    exact ⟨m, hm, e, by rw [classRel_get (by omega) (by omega)]; simpa using r.2⟩
end Go.Proofs.Ytemhpkfijoodkaa.Asl
