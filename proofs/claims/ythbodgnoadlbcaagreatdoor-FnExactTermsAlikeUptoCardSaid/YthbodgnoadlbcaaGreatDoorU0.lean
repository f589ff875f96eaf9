/- A row's arguments as abstract values: terms. -/
import Derived.Test.YthbodgnoadlbcaaGreatDoorRows
import Derived.Test.YthbodgnoadlbcaaGreatDoorF
import Derived.Test.YthbodgnoadlbcaaGreatDoorTT
import Derived.Test.YthbodgnoadlbcaaGreatDoorUB
namespace Go.Proofs.YthbodgnoadlbcaaGreatDoor.Asl
open Go.RowKit
set_option linter.unusedVariables false
set_option linter.unusedSimpArgs false

theorem cutL3 {l : List AV} {o : Nat} {a b c : AV} (h0 : l[o]? = some a) (h1 : l[o + 1]? = some b) (h2 : l[o + 2]? = some c) : cutL l o 3 = [a, b, c] := by
  unfold cutL
  apply List.ext_getElem?
  intro j
  rw [List.getElem?_take]
  match j with
  | 0 => simpa using h0
  | 1 => simpa using h1
  | 2 => simpa using h2
  | j + 3 => rw [if_neg (by omega)]; rfl

/-- The types of terms and of their lists. -/
structure TermTy (P : Program) (t e : TypeId) : Prop where
  sl : P.underlying t = some (.slice e)
  st : ∃ f0 f1 f2 : Field, P.underlying e = some (.struct #[f0, f1, f2]) ∧ f0.offset = 0 ∧ f1.offset = 1 ∧ f2.offset = 2 ∧ P.underlying f0.type = some (.int .i64) ∧ P.underlying f1.type = some (.int .i64) ∧ f2.type = t ∧ P.cellsOf f0.type = 1 ∧ P.cellsOf f1.type = 1
  ce : P.cellsOf e = 3
  ct : P.cellsOf t = 1

section
variable {H : Type} {enc : TypeId × Value → H} {P : Program} {w : World} {sp : Nat → Bool} {held : Bool} {t e : TypeId}
theorem trod_term (T : TermTy P t e) {fuel : Nat} {cs : List Value} {x : DataW H × List MemPlace} (h : DataW.trod enc P w 0 sp held (fuel + 1) e cs = some x) :
    ∃ op n v y d0 d1 q, cs = [.int .i64 op, .int .i64 n, v] ∧ DataW.trod enc P w 0 sp held fuel t [v] = some (y, q) ∧ x.1 = .agg [d0, d1, y] := by
  obtain ⟨f0, f1, f2, hs, o0, o1, o2, i0, i1, ht, c0, c1⟩ := T.st
  unfold DataW.trod at h
  rw [hs] at h
  simp only [T.ce] at h
  split at h
  · rename_i hl
    obtain ⟨a, b, c, rfl⟩ : ∃ a b c, cs = [a, b, c] := by
      match cs, hl with
      | [a, b, c], _ => exact ⟨a, b, c, rfl⟩
    simp only [List.mapM_cons, List.mapM_nil, o0, o1, o2, c0, c1, ht, T.ct, List.drop_zero, List.drop_succ_cons, List.take_succ_cons, List.take_zero] at h
    cases h0 : DataW.trod enc P w 0 sp held fuel f0.type [a] with
    | none => simp [h0] at h
    | some x0 =>
      cases h1 : DataW.trod enc P w 0 sp held fuel f1.type [b] with
      | none => simp [h0, h1] at h
      | some x1 =>
        cases h2 : DataW.trod enc P w 0 sp held fuel t [c] with
        | none => simp [h0, h1, h2] at h
        | some x2 =>
          simp [h0, h1, h2] at h
          obtain ⟨op, e0⟩ := trod_int i0 h0
          obtain ⟨n, e1⟩ := trod_int i1 h1
          cases e0; cases e1
          refine ⟨op, n, c, x2.1, x0.1, x1.1, x2.2, rfl, h2, ?_⟩
          rw [← h]
  · simp at h

/-- What a list of terms is opened to. -/
def Opened (w : World) (σ : Store) (ρ : Pl) (v : Value) (ts : List Tm) : Prop :=
  ∃ s σ' ρ', R ρ' s v ∧ RTs σ' s ts ∧ Sim w.heap.size ρ' σ' w ∧ Le ρ ρ' ∧ LeS σ σ'

theorem trod_slice (T : TermTy P t e) {fuel : Nat} {v : Value} {d : DataW H} {q : List MemPlace} (h : DataW.trod enc P w 0 sp held (fuel + 1) t [v] = some (d, q)) :
    (v = .slice none 0 0 ∧ d = .nil) ∨ ∃ a len cap elems rest, v = .slice (some a) len cap ∧ len ≤ cap ∧ d = .slice (elems.map (·.1)) rest ∧
      (List.range len).mapM (fun i => (w.cells? 0 (a.add (i * 3)) 3).bind (DataW.trod enc P w 0 sp held fuel e)) = some elems := by
  unfold DataW.trod at h
  rw [T.sl] at h
  cases v with
  | slice a len cap =>
    cases a with
    | none =>
      match len, cap, h with
      | 0, 0, h => simp at h; exact .inl ⟨rfl, h.1.symm⟩
      | 0, _ + 1, h => simp at h
      | _ + 1, _, h => simp at h
    | some a =>
      right
      simp only [T.ce] at h
      split at h
      · rename_i hc
        cases h1 : (List.range len).mapM (fun i => (w.cells? 0 (a.add (i * 3)) 3).bind (DataW.trod enc P w 0 sp held fuel e)) with
        | none => rw [h1] at h; simp at h
        | some elems =>
          rw [h1] at h
          simp only [Option.bind_some, Option.map_eq_some_iff] at h
          obtain ⟨rest, _, h3⟩ := h
          cases h3
          exact ⟨a, len, cap, elems, _, rfl, hc.2.1, rfl, h1⟩
      · simp at h
  | _ => simp at h

theorem open_terms (T : TermTy P t e) : ∀ (fuel : Nat) (v : Value) (d : DataW H) (q : List MemPlace), DataW.trod enc P w 0 sp held fuel t [v] = some (d, q) → Rows.uptoBulk d ≤ 1048576 →
    ∃ ts, Tm.cnts ts ≤ Rows.uptoBulk d ∧ ∀ σ ρ, Sim w.heap.size ρ σ w → Opened w σ ρ v ts := by
  intro fuel
  induction fuel using Nat.strongRecOn with
  | _ fuel ih =>
  intro v d q h hbulk
  cases fuel with
  | zero => simp [DataW.trod] at h
  | succ fuel =>
  rcases trod_slice T h with ⟨rfl, rfl⟩ | ⟨a, len, cap, elems, rest, rfl, hcap, rfl, hel⟩
  · exact ⟨[], by simp [Tm.cnts], fun σ ρ hs => ⟨_, σ, ρ, .lit _, ⟨.nil⟩, hs, Le.refl _, instLeRefl⟩⟩
  obtain ⟨hl, hget⟩ := mapM_get hel
  simp only [List.length_range] at hl
  have hlen : len ≤ 1048576 := by
    have := bulk_len (elems.map (·.1))
    simp only [Rows.uptoBulk, List.length_map] at hbulk this
    omega
  -- the parts, one by one
  have each : ∀ i, i < len → ∃ op n v' ts, (∃ x, elems[i]? = some x ∧ Tm.cnts ts + 1 ≤ Rows.uptoBulk x.1) ∧ w.cell? (a.add (i * 3)) = some (.int .i64 op) ∧ w.cell? ((a.add (i * 3)).add 1) = some (.int .i64 n) ∧ w.cell? ((a.add (i * 3)).add 2) = some v' ∧ ∀ σ ρ, Sim w.heap.size ρ σ w → Opened w σ ρ v' ts := by
    intro i hi
    obtain ⟨x, hx, hf⟩ := hget i i (by simp [hi])
    cases hc : w.cells? 0 (a.add (i * 3)) 3 with
    | none => rw [hc] at hf; simp at hf
    | some cs =>
      rw [hc] at hf
      simp only [Option.bind_some] at hf
      obtain ⟨hcl, hcg⟩ := cells_get hc
      cases fuel with
      | zero => simp [DataW.trod] at hf
      | succ fuel =>
      obtain ⟨op, n, v', y, d0, d1, q', rfl, hy, hxe⟩ := trod_term T hf
      obtain ⟨u0, k0, g0⟩ := hcg 0 (by omega)
      obtain ⟨u1, k1, g1⟩ := hcg 1 (by omega)
      obtain ⟨u2, k2, g2⟩ := hcg 2 (by omega)
      simp at k0 k1 k2
      subst k0 k1 k2
      have hm : x.1 ∈ elems.map (·.1) := List.mem_map_of_mem (List.mem_of_getElem? hx)
      have hb : Rows.uptoBulk y ≤ 1048576 := by
        have h1 := bulk_mem hm
        rw [hxe] at h1
        simp only [Rows.uptoBulk, Rows.uptoBulkAll] at h1 hbulk
        omega
      obtain ⟨ts, hcn, hts⟩ := ih fuel (by omega) v' y q' hy hb
      refine ⟨op, n, v', ts, ⟨x, hx, by rw [hxe]; simp only [Rows.uptoBulk, Rows.uptoBulkAll]; omega⟩, by simpa [Addr.add] using g0, g1, g2, hts⟩
  clear hget hel ih h
  have chain : ∀ n, n ≤ len → ∃ ts : List Tm, ts.length = n ∧ Tm.cnts ts ≤ Rows.uptoBulkAll ((elems.map (·.1)).take n) ∧ ∀ σ ρ, Sim w.heap.size ρ σ w → ∃ (ss : List AV) (σ' : Store) (ρ' : Pl), ss.length = n ∧ Sim w.heap.size ρ' σ' w ∧ Le ρ ρ' ∧ LeS σ σ' ∧
      ∀ (k : Nat) (t : Tm) (s : AV), ts[k]? = some t → ss[k]? = some s → ∃ v', w.cell? (a.add (k * 3)) = some (.int .i64 t.op) ∧ w.cell? ((a.add (k * 3)).add 1) = some (.int .i64 t.n) ∧ w.cell? ((a.add (k * 3)).add 2) = some v' ∧ R ρ' s v' ∧ RTs σ' s t.ps := by
    intro n
    induction n with
    | zero => exact fun _ => ⟨[], rfl, by simp [Tm.cnts], fun σ ρ hs => ⟨[], σ, ρ, rfl, hs, Le.refl _, instLeRefl, by simp⟩⟩
    | succ n ihn =>
      intro hn
      obtain ⟨ts, htl, htc, hts⟩ := ihn (by omega)
      obtain ⟨op, nn, v', ts', ⟨x, hx, hxc⟩, g0, g1, g2, hopen⟩ := each n (by omega)
      have hnl : n < (elems.map (·.1)).length := by simp; omega
      have hxe : (elems.map (·.1))[n] = x.1 := by
        have : elems[n]? = some x := hx
        rw [List.getElem?_eq_getElem (by omega)] at this
        simpa using congrArg Prod.fst (Option.some.inj this)
      refine ⟨ts ++ [.node op nn ts'], by simp [htl], ?_, fun σ ρ hs => ?_⟩
      · rw [List.take_succ_eq_append_getElem hnl, bulk_append, Tm.cnts_append, hxe]
        simp only [Rows.uptoBulkAll, Tm.cnts, Tm.cnt]; omega
      obtain ⟨ss, σ', ρ', hsl, hs', hle, hls, hall⟩ := hts σ ρ hs
      obtain ⟨s, σ'', ρ'', hR, hT, hs'', hle', hls'⟩ := hopen σ' ρ' hs'
      have := hls'.grow
      refine ⟨ss ++ [s], σ'', ρ'', by simp [hsl], hs'', hle.trans hle', hls.trans hls', ?_⟩
      intro k t' s' ht' hs2
      by_cases hk : k < n
      · rw [List.getElem?_append_left (by omega)] at ht' hs2
        obtain ⟨v2, e0, e1, e2, e3, e4⟩ := hall k t' s' ht' hs2
        exact ⟨v2, e0, e1, e2, e3.mono hle', inferInstance⟩
      · rw [List.getElem?_append_right (by omega)] at ht' hs2
        have hk0 : k = n := by
          rcases Nat.lt_or_ge n k with h | h
          · rw [List.getElem?_eq_none (by simp; omega)] at ht'; cases ht'
          · omega
        subst hk0
        simp [htl] at ht'
        simp [hsl] at hs2
        subst ht' hs2
        exact ⟨v', g0, g1, g2, hR, hT⟩
  obtain ⟨ts, htl, htc, hts⟩ := chain len (Nat.le_refl _)
  refine ⟨ts, ?_, fun σ ρ hs => ?_⟩
  · rw [List.take_of_length_le (by simp; omega)] at htc
    simp only [Rows.uptoBulk]; omega
  rcases Nat.eq_zero_or_pos len with h0 | hpos
  · subst h0
    obtain rfl : ts = [] := by simpa using htl
    exact ⟨_, σ, ρ, .lit _, ⟨.nil⟩, hs, Le.refl _, instLeRefl⟩
  obtain ⟨ss, σ', ρ', hsl, hs', hle, hls, hall⟩ := hts σ ρ hs
  -- where it lies
  obtain ⟨b, off, spot⟩ := a
  have hcell : ∃ u, w.cell? ⟨b, off, spot⟩ = some u := by
    obtain ⟨op, n, v', ts', _, g0, _⟩ := each 0 hpos
    exact ⟨_, by simpa [Addr.add] using g0⟩
  obtain rfl : spot = none := by
    obtain ⟨u, hu⟩ := hcell
    unfold World.cell? at hu
    split at hu
    · split at hu
      · cases hu
      · rename_i h; simpa using h
    · cases hu
  have hlt : b < w.heap.size := by
    obtain ⟨u, hu⟩ := hcell
    unfold World.cell? at hu
    rcases Nat.lt_or_ge b w.heap.size with h | h
    · exact h
    · rw [Array.getElem?_eq_none h] at hu; simp at hu
  let pick : Nat → AV := fun i => if i % 3 = 0 then I (ts.getD (i / 3) (.node 0 0 [])).op else if i % 3 = 1 then I (ts.getD (i / 3) (.node 0 0 [])).n else ss.getD (i / 3) default
  have hpick : ∀ i c, ((List.range (len * 3)).map pick)[i]? = some c → i < len * 3 ∧ c = pick i := by
    intro i c h
    rw [List.getElem?_map] at h
    rcases Nat.lt_or_ge i (len * 3) with hi | hi
    · rw [List.getElem?_range hi] at h; simp at h; exact ⟨hi, h.symm⟩
    · rw [List.getElem?_eq_none (by simpa using hi)] at h; cases h
  have hnew := hs'.addRo (b := b) (off := off) (room := cap * 3) (esz := 3) (cs := (List.range (len * 3)).map pick) hlt hlt (by
    intro i c hc
    obtain ⟨hi, rfl⟩ := hpick i c hc
    have hk : i / 3 < len := by omega
    have ht' : ts[i / 3]? = some (ts.getD (i / 3) (.node 0 0 [])) := by simp [List.getD_eq_getElem?_getD, htl, hk]
    have hs2 : ss[i / 3]? = some (ss.getD (i / 3) default) := by simp [List.getD_eq_getElem?_getD, hsl, hk]
    obtain ⟨v', e0, e1, e2, e3, e4⟩ := hall _ _ _ ht' hs2
    simp only [addr_add] at e0 e1 e2
    by_cases h3 : i % 3 = 0
    · simp only [pick, if_pos h3]
      exact ⟨rfl, _, by rw [← e0]; congr 2; omega, .lit _⟩
    by_cases h4 : i % 3 = 1
    · simp only [pick, if_neg h3, if_pos h4]
      exact ⟨rfl, _, by rw [← e1]; congr 2; omega, .lit _⟩
    · simp only [pick, if_neg h3, if_neg h4]
      exact ⟨e4.one.eq, _, by rw [← e2]; congr 2; omega, e3⟩)
  have hg := grow_push (σ := σ') ⟨.ro, 3, (List.range (len * 3)).map pick, []⟩
  refine ⟨.sl σ'.length 0 len, _, _, ?_, ?_, hnew, hle.trans (more_le hs' _), hls.trans ⟨hg.keep⟩⟩
  · have := R.sl (ρ := more ρ' σ'.length ⟨b, off, cap * 3, 3, false⟩) (id := σ'.length) (off := 0) (len := len) (cap := cap) (more_at _ _ _) hcap (by simp)
    simpa using this
  · subst htl
    have hh := has_push (σ := σ') ⟨.ro, 3, (List.range (ts.length * 3)).map pick, []⟩
    refine ⟨RepTs.row ss trivial hh.get (.inl rfl) rfl (by omega) (by omega) ?_ ?_⟩
    · intro k t' s' ht' hs2
      have hk : k < ts.length := by
        rcases Nat.lt_or_ge k ts.length with h | h
        · exact h
        · rw [List.getElem?_eq_none (by omega)] at ht'; cases ht'
      have hget : ∀ j, j < 3 → ((List.range (ts.length * 3)).map pick)[0 + k * 3 + j]? = some (pick (k * 3 + j)) := by
        intro j hj
        rw [List.getElem?_map, List.getElem?_range (by omega)]; simp
      rw [cut_cutL]
      refine cutL3 ?_ ?_ ?_
      · have := hget 0 (by omega); rw [Nat.add_zero] at this; rw [this]
        simp only [pick]; rw [if_pos (by omega)]
        simp [List.getD_eq_getElem?_getD, ht']
      · have := hget 1 (by omega); rw [this]
        simp only [pick]; rw [if_neg (by omega), if_pos (by omega)]
        have : (k * 3 + 1) / 3 = k := by omega
        simp [List.getD_eq_getElem?_getD, this, ht']
      · have := hget 2 (by omega); rw [this]
        simp only [pick]; rw [if_neg (by omega), if_neg (by omega)]
        have : (k * 3 + 2) / 3 = k := by omega
        simp [List.getD_eq_getElem?_getD, this, hs2]
    · intro k t' s' ht' hs2
      obtain ⟨v', e0, e1, e2, e3, e4⟩ := hall k t' s' ht' hs2
      exact e4.rep.mono (fun i o _ => hg.keep i o) (fun _ _ => trivial)

theorem open_term_arg (T : TermTy P t e) {v : Value} {d : DataW H} {q : List MemPlace} (h : DataW.Trod enc P w 0 sp held e v d q) (hb : Rows.uptoBulk d ≤ 1048576) :
    ∃ op n v' ts, v = .agg #[.int .i64 op, .int .i64 n, v'] ∧ Tm.cnts ts ≤ 1048576 ∧ ∀ σ ρ, Sim w.heap.size ρ σ w → Opened w σ ρ v' ts := by
  obtain ⟨fuel, h⟩ := h
  cases fuel with
  | zero => simp [DataW.trod] at h
  | succ fuel =>
    obtain ⟨op, n, v', y, d0, d1, q', hc, hy, hx⟩ := trod_term T h
    simp only at hx
    subst hx
    simp only [Rows.uptoBulk, Rows.uptoBulkAll] at hb
    obtain ⟨ts, hcn, hts⟩ := open_terms T fuel v' y q' hy (by omega)
    refine ⟨op, n, v', ts, ?_, by omega, hts⟩
    cases v with
    | agg cs =>
      have hc' : cs.toList = [.int .i64 op, .int .i64 n, v'] := hc
      congr 1
      exact Array.ext' (by simpa using hc')
    | _ => simp [Value.cells] at hc
theorem open_terms_arg (T : TermTy P t e) {v : Value} {d : DataW H} {q : List MemPlace} (hs : ∃ a len cap, v = .slice a len cap) (h : DataW.Trod enc P w 0 sp held t v d q) (hb : Rows.uptoBulk d ≤ 1048576) :
    ∃ ts, Tm.cnts ts ≤ 1048576 ∧ ∀ σ ρ, Sim w.heap.size ρ σ w → Opened w σ ρ v ts := by
  obtain ⟨a, len, cap, rfl⟩ := hs
  obtain ⟨fuel, h⟩ := h
  obtain ⟨ts, hcn, hts⟩ := open_terms T fuel _ d q h hb
  exact ⟨ts, by omega, hts⟩
end
end Go.Proofs.YthbodgnoadlbcaaGreatDoor.Asl
