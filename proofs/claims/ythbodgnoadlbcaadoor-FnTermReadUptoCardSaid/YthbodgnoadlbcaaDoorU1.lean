/- A row's arguments as abstract values: rows, rows of rows, graphs. -/
import Derived.Test.YthbodgnoadlbcaaDoorUB
import Derived.Test.YthbodgnoadlbcaaDoorGG
namespace Go.Proofs.YthbodgnoadlbcaaDoor.Asl
open Go.RowKit
set_option linter.unusedVariables false
set_option linter.unusedSimpArgs false

theorem rowCells_get {α : Type} [Enc α] (l : List α) (i : Nat) : (rowCells l)[i]? = (l[i / Enc.e α]?).bind fun x => (Enc.enc x)[i % Enc.e α]? := by
  have hpos := Enc.pos (α := α)
  rcases Nat.lt_or_ge i (l.length * Enc.e α) with h | h
  · have hd : i / Enc.e α < l.length := by rw [Nat.div_lt_iff_lt_mul hpos]; exact h
    have hm := Nat.mod_lt i hpos
    have hdm := Nat.div_add_mod i (Enc.e α)
    rw [Nat.mul_comm] at hdm
    have e2 := rowCells_cut (l := l) (k := i / Enc.e α) (x := l[i / Enc.e α]) (by simp [hd])
    have k2 : (cutL (rowCells l) (i / Enc.e α * Enc.e α) (Enc.e α))[i % Enc.e α]? = (rowCells l)[i]? := by
      unfold cutL
      rw [List.getElem?_take, if_pos hm, List.getElem?_drop]; congr 1
    rw [← k2, e2]; simp [hd]
  · have hd : l.length ≤ i / Enc.e α := (Nat.le_div_iff_mul_le hpos).mpr h
    rw [List.getElem?_eq_none (by rw [rowCells_length]; exact h), List.getElem?_eq_none hd]; rfl

section
variable {H : Type} {enc : TypeId × Value → H} {P : Program} {w : World} {sp : Nat → Bool} {held : Bool} {t e : TypeId}
theorem trod_sliceG {n : Nat} (ht : P.underlying t = some (.slice e)) (hn : P.cellsOf e = n) {fuel : Nat} {v : Value} {d : DataW H} {q : List MemPlace} (h : DataW.trod enc P w 0 sp held (fuel + 1) t [v] = some (d, q)) :
    (v = .slice none 0 0 ∧ d = .nil) ∨ ∃ a len cap elems rest, v = .slice (some a) len cap ∧ len ≤ cap ∧ d = .slice (elems.map (·.1)) rest ∧
      (List.range len).mapM (fun i => (w.cells? 0 (a.add (i * n)) n).bind (DataW.trod enc P w 0 sp held fuel e)) = some elems := by
  unfold DataW.trod at h
  rw [ht] at h
  cases v with
  | slice a len cap =>
    cases a with
    | none =>
      match len, cap, h with
      | 0, 0, h => simp at h; exact .inl ⟨rfl, h.1.symm⟩
      | 0, _ + 1, h => simp at h
      | _ + 1, _, h => simp at h
    | some a =>
      right
      simp only [hn] at h
      split at h
      · rename_i hc
        cases h1 : (List.range len).mapM (fun i => (w.cells? 0 (a.add (i * n)) n).bind (DataW.trod enc P w 0 sp held fuel e)) with
        | none => rw [h1] at h; simp at h
        | some elems =>
          rw [h1] at h
          simp only [Option.bind_some, Option.map_eq_some_iff] at h
          obtain ⟨rest, _, h3⟩ := h
          cases h3
          exact ⟨a, len, cap, elems, _, rfl, hc.2.1, rfl, h1⟩
      · simp at h
  | _ => simp at h
/-- A struct of two numbers. -/
structure MvTy (P : Program) (e : TypeId) : Prop where
  st : ∃ f0 f1 : Field, P.underlying e = some (.struct #[f0, f1]) ∧ f0.offset = 0 ∧ f1.offset = 1 ∧ P.underlying f0.type = some (.int .i64) ∧ P.underlying f1.type = some (.int .i64) ∧ P.cellsOf f0.type = 1 ∧ P.cellsOf f1.type = 1
  ce : P.cellsOf e = 2
/-- A slice whose elements can be opened one behind another. -/
theorem open_row {α β : Type} [Enc α] (T : Store → α → β → Prop) (hT : ∀ σ σ' x y, LeS σ σ' → T σ x y → T σ' x y) {a : Addr} {len cap : Nat} (hcap : len ≤ cap) (hlen : len ≤ 4294967296)
    (each : ∀ i, i < len → ∃ y : β, ∀ σ ρ, Sim w.heap.size ρ σ w → ∃ (x : α) (σ' : Store) (ρ' : Pl), Sim w.heap.size ρ' σ' w ∧ Le ρ ρ' ∧ LeS σ σ' ∧ T σ' x y ∧ (∀ c ∈ Enc.enc x, c.one = true) ∧ ∃ us : List Value, (∀ (j : Nat) (u : Value), us[j]? = some u → w.cell? ((a.add (i * Enc.e α)).add j) = some u) ∧ Rs ρ' (Enc.enc x) us) :
    ∃ ys : List β, ys.length = len ∧ ∀ σ ρ, Sim w.heap.size ρ σ w → ∃ (xs : List α) (s : AV) (σ' : Store) (ρ' : Pl), xs.length = len ∧ R ρ' s (.slice (some a) len cap) ∧ RW σ' s xs ∧ (∀ (k : Nat) (x : α) (y : β), xs[k]? = some x → ys[k]? = some y → T σ' x y) ∧ Sim w.heap.size ρ' σ' w ∧ Le ρ ρ' ∧ LeS σ σ' := by
  have hpos := Enc.pos (α := α)
  have chain : ∀ n, n ≤ len → ∃ ys : List β, ys.length = n ∧ ∀ σ ρ, Sim w.heap.size ρ σ w → ∃ (xs : List α) (σ' : Store) (ρ' : Pl), xs.length = n ∧ Sim w.heap.size ρ' σ' w ∧ Le ρ ρ' ∧ LeS σ σ' ∧ (∀ (k : Nat) (x : α) (y : β), xs[k]? = some x → ys[k]? = some y → T σ' x y) ∧
      ∀ (k : Nat) (x : α), xs[k]? = some x → (∀ c ∈ Enc.enc x, c.one = true) ∧ ∃ us : List Value, (∀ (j : Nat) (u : Value), us[j]? = some u → w.cell? ((a.add (k * Enc.e α)).add j) = some u) ∧ Rs ρ' (Enc.enc x) us := by
    intro n
    induction n with
    | zero => exact fun _ => ⟨[], rfl, fun σ ρ hs => ⟨[], σ, ρ, rfl, hs, Le.refl _, instLeRefl, by simp, by simp⟩⟩
    | succ n ihn =>
      intro hn
      obtain ⟨ys, hyl, hys⟩ := ihn (by omega)
      obtain ⟨y, hopen⟩ := each n (by omega)
      refine ⟨ys ++ [y], by simp [hyl], fun σ ρ hs => ?_⟩
      obtain ⟨xs, σ', ρ', hxl, hs', hle, hls, hTs, hall⟩ := hys σ ρ hs
      obtain ⟨x, σ'', ρ'', hs'', hle', hls', hTx, h1x, us, hus, hR⟩ := hopen σ' ρ' hs'
      refine ⟨xs ++ [x], σ'', ρ'', by simp [hxl], hs'', hle.trans hle', hls.trans hls', ?_, ?_⟩
      · intro k x' y' hx' hy'
        by_cases hk : k < n
        · rw [List.getElem?_append_left (by omega)] at hx' hy'
          exact hT _ _ _ _ hls' (hTs k x' y' hx' hy')
        · rw [List.getElem?_append_right (by omega)] at hx' hy'
          have hk0 : k = n := by
            rcases Nat.lt_or_ge n k with h | h
            · rw [List.getElem?_eq_none (by simp; omega)] at hx'; cases hx'
            · omega
          subst hk0
          simp [hxl] at hx'
          simp [hyl] at hy'
          subst hx' hy'
          exact hTx
      · intro k x' hx'
        by_cases hk : k < n
        · rw [List.getElem?_append_left (by omega)] at hx'
          obtain ⟨q1, us', q2, q3⟩ := hall k x' hx'
          exact ⟨q1, us', q2, q3.mono hle'⟩
        · rw [List.getElem?_append_right (by omega)] at hx'
          have hk0 : k = n := by
            rcases Nat.lt_or_ge n k with h | h
            · rw [List.getElem?_eq_none (by simp; omega)] at hx'; cases hx'
            · omega
          subst hk0
          simp [hxl] at hx'
          subst hx'
          exact ⟨h1x, us, hus, hR⟩
  obtain ⟨ys, hyl, hys⟩ := chain len (Nat.le_refl _)
  refine ⟨ys, hyl, fun σ ρ hs => ?_⟩
  obtain ⟨xs, σ', ρ', hxl, hs', hle, hls, hTs, hall⟩ := hys σ ρ hs
  rcases Nat.eq_zero_or_pos len with h0 | hp
  · subst h0
    obtain rfl : xs = [] := by simpa using hxl
    exact ⟨[], _, σ', ρ', rfl, .lit _, .nil _ _ _, hTs, hs', hle, hls⟩
  obtain ⟨b, off, spot⟩ := a
  have hcell : ∃ u, w.cell? ⟨b, off, spot⟩ = some u := by
    obtain ⟨_, us, q2, q3⟩ := hall 0 xs[0] (by simp [hxl, hp])
    have hl := q3.length
    rw [Enc.len] at hl
    exact ⟨us[0], by simpa [Addr.add] using q2 0 us[0] (by simp)⟩
  obtain rfl : spot = none := by
    obtain ⟨u, hu⟩ := hcell
    unfold World.cell? at hu
    split at hu
    · split at hu
      · cases hu
      · rename_i h; simpa using h
    · cases hu
  have hlt : b < w.heap.size := by
    obtain ⟨u, hu⟩ := hcell
    unfold World.cell? at hu
    rcases Nat.lt_or_ge b w.heap.size with h | h
    · exact h
    · rw [Array.getElem?_eq_none h] at hu; simp at hu
  have hnew := hs'.addRo (b := b) (off := off) (room := cap * Enc.e α) (esz := Enc.e α) (cs := rowCells xs) hlt hlt (by
    intro i c hc
    rw [rowCells_get] at hc
    cases hx : xs[i / Enc.e α]? with
    | none => rw [hx] at hc; cases hc
    | some x =>
      rw [hx] at hc
      simp only [Option.bind_some] at hc
      obtain ⟨q1, us, q2, q3⟩ := hall _ x hx
      obtain ⟨u, k1, k2⟩ := q3.get _ c hc
      refine ⟨q1 c (List.mem_of_getElem? hc), u, ?_, k2⟩
      have := q2 _ u k1
      simp only [addr_add] at this
      rw [← this]
      have hdm := Nat.div_add_mod i (Enc.e α)
      rw [Nat.mul_comm] at hdm
      congr 2; omega)
  have hg := grow_push (σ := σ') ⟨.ro, Enc.e α, rowCells xs, []⟩
  refine ⟨xs, .sl σ'.length 0 len, _, _, hxl, ?_, ?_, fun k x y hx hy => hT _ _ _ _ ⟨hg.keep⟩ (hTs k x y hx hy), hnew, hle.trans (more_le hs' _), hls.trans ⟨hg.keep⟩⟩
  · have := R.sl (ρ := more ρ' σ'.length ⟨b, off, cap * Enc.e α, Enc.e α, false⟩) (id := σ'.length) (off := 0) (len := len) (cap := cap) (more_at _ _ _) hcap (by simp)
    simpa using this
  · have hh := has_push (σ := σ') ⟨.ro, Enc.e α, rowCells xs, []⟩
    subst hxl
    exact ⟨hlen, .inr ⟨σ'.length, 0, _, rfl, hh.get, .inl rfl, rfl, fun k x hx => by rw [cut_cutL, Nat.zero_add]; exact rowCells_cut hx⟩⟩

/-- What a row is opened to. -/
def OpenR {α : Type} [Enc α] (w : World) (σ : Store) (ρ : Pl) (v : Value) (l : List α) : Prop :=
  ∃ s σ' ρ', R ρ' s v ∧ RW σ' s l ∧ Sim w.heap.size ρ' σ' w ∧ Le ρ ρ' ∧ LeS σ σ'
/-- What a row of rows is opened to. -/
def OpenRR {α : Type} [Enc α] (w : World) (σ : Store) (ρ : Pl) (v : Value) (g : List (List α)) : Prop :=
  ∃ s ss σ' ρ', R ρ' s v ∧ RW σ' s ss ∧ RRs σ' ss g ∧ Sim w.heap.size ρ' σ' w ∧ Le ρ ρ' ∧ LeS σ σ'

/-- Rows of elements that hold numbers and truths alone. -/
theorem open_flat {α : Type} [Enc α] (encV : α → List Value) (hV : ∀ x : α, (encV x).map AV.lit = Enc.enc x) (h1 : ∀ x : α, ∀ c ∈ Enc.enc x, c.one = true) (ht : P.underlying t = some (.slice e)) (hn : P.cellsOf e = Enc.e α)
    (hel : ∀ fuel cs x, DataW.trod enc P w 0 sp held fuel e cs = some x → ∃ y : α, cs = encV y) {fuel : Nat} {v : Value} {d : DataW H} {q : List MemPlace} (h : DataW.trod enc P w 0 sp held fuel t [v] = some (d, q)) (hb : Rows.uptoBulk d ≤ 1048576) :
    ∃ l : List α, l.length ≤ 1048576 ∧ ∀ σ ρ, Sim w.heap.size ρ σ w → OpenR w σ ρ v l := by
  cases fuel with
  | zero => simp [DataW.trod] at h
  | succ fuel =>
  rcases trod_sliceG ht hn h with ⟨rfl, rfl⟩ | ⟨a, len, cap, elems, rest, rfl, hcap, rfl, hel'⟩
  · exact ⟨[], by simp, fun σ ρ hs => ⟨_, σ, ρ, .lit _, .nil _ _ _, hs, Le.refl _, instLeRefl⟩⟩
  obtain ⟨hl, hget⟩ := mapM_get hel'
  simp only [List.length_range] at hl
  have hlen : len ≤ 1048576 := by
    have := bulk_len (elems.map (·.1))
    simp only [Rows.uptoBulk, List.length_map] at hb this
    omega
  obtain ⟨ys, hyl, hys⟩ := open_row (w := w) (α := α) (β := α) (fun _ x y => x = y) (fun _ _ _ _ _ h => h) (a := a) hcap (by omega) (by
    intro i hi
    obtain ⟨x, hx, hf⟩ := hget i i (by simp [hi])
    cases hc : w.cells? 0 (a.add (i * Enc.e α)) (Enc.e α) with
    | none => rw [hc] at hf; simp at hf
    | some cs =>
      rw [hc] at hf
      simp only [Option.bind_some] at hf
      obtain ⟨hcl, hcg⟩ := cells_get hc
      obtain ⟨y, rfl⟩ := hel fuel cs x hf
      refine ⟨y, fun σ ρ hs => ⟨y, σ, ρ, hs, Le.refl _, instLeRefl, rfl, h1 y, encV y, fun j u hu => ?_, by rw [← hV]; exact Rs.lits ρ _⟩⟩
      have hj : j < Enc.e α := by
        rcases Nat.lt_or_ge j (Enc.e α) with h | h
        · exact h
        · rw [List.getElem?_eq_none (by omega)] at hu; cases hu
      obtain ⟨u', k1, k2⟩ := hcg j hj
      rw [k1] at hu; cases hu; exact k2)
  refine ⟨ys, by omega, fun σ ρ hs => ?_⟩
  obtain ⟨xs, s, σ', ρ', hxl, hR, hRW, hT, hs', hle, hls⟩ := hys σ ρ hs
  obtain rfl : xs = ys := by
    apply List.ext_getElem (by omega)
    intro k k1 k2
    exact hT k _ _ (List.getElem?_eq_getElem k1) (List.getElem?_eq_getElem k2)
  exact ⟨s, σ', ρ', hR, hRW, hs', hle, hls⟩

def total {α : Type} (g : List (List α)) : Nat := (g.map List.length).sum
/-- The types of a graph. -/
structure GraphTy (P : Program) (tg t2 t e : TypeId) : Prop where
  st : ∃ f0 : Field, P.underlying tg = some (.struct #[f0]) ∧ f0.offset = 0 ∧ f0.type = t2
  cg : P.cellsOf tg = 1
  ct2 : P.cellsOf t2 = 1
  sl2 : P.underlying t2 = some (.slice t)
  ct : P.cellsOf t = 1
  sl : P.underlying t = some (.slice e)
  mv : MvTy P e
end
end Go.Proofs.YthbodgnoadlbcaaDoor.Asl
