/- Sorting a row: what the library's contracts say, over the abstract store. -/
import Derived.Shelf.SortM.Plain
import Derived.Shelf.SortM.SortNone
import Derived.Shelf.SlSortCmp.NoneTotal
import Derived.Test.YthbodgnoadlbcaaGreatDoorG13
namespace Go.Proofs.YthbodgnoadlbcaaGreatDoor.Asl
open Go.RowKit Go.Proofs.YthbodgnoadlbcaaGreatDoorW.PrintLast Go.Sort Go.Shelf
set_option linter.unusedVariables false
set_option linter.unusedSimpArgs false

theorem Sim.grown {base : Nat} {ρ : Pl} {σ : Store} {w : World} (h : Sim base ρ σ w) (n : Nat) (os : Array Obj) : Sim base ρ σ (Go.Sort.grow (Go.Sort.ahead w n) os) := by
  have hb : ∀ k, k < w.heap.size → (Go.Sort.grow (Go.Sort.ahead w n) os).heap[k]? = w.heap[k]? := by
    intro k hk
    show (w.heap ++ os)[k]? = _
    rw [Array.getElem?_append_left hk]
  have hs : w.heap.size ≤ (Go.Sort.grow (Go.Sort.ahead w n) os).heap.size := by
    show w.heap.size ≤ (w.heap ++ os).size
    simp
  exact ⟨h.dom, fun i o p ho hp => (h.obs i o p ho hp).of_block (Le.refl _) (hb _ (h.size i p hp)), h.inj, fun i p hp => Nat.lt_of_lt_of_le (h.size i p hp) hs, Nat.le_trans h.le hs⟩

theorem putCells_get (off : Nat) (F c : Array Value) (k : Nat) (hk : k < c.size) : (putCells id off F c)[k]? = some (if off ≤ k ∧ k < off + F.size then F[k - off]! else c[k]) := by
  simp only [putCells, Array.getElem?_mapIdx, Array.getElem?_eq_getElem hk, Option.map_some]
  rfl

section
variable {α : Type} [Enc α]
theorem Sim.putRow {base : Nat} {ρ : Pl} {σ : Store} {w : World} (h : Sim base ρ σ w) {i : Nat} {l l' : List α} {p : Place} (ho : Has σ i (Row l)) (hp : ρ i = some p) (F : Array Value) (hF : F.size = l.length * Enc.e α) (hl : l'.length = l.length)
    (hR : ∀ (j : Nat) (c : AV), (rowCells l')[j]? = some c → c.one = true ∧ ∃ u : Value, F[j]? = some u ∧ R ρ c u) (n : Nat) (os : Array Obj) :
    Sim base ρ (σ.set i (Row l')) (Go.Sort.grow (Go.Sort.putRow id (Go.Sort.ahead w n) p.blk p.off F) os) ∧ Fr w.heap.size (fun b => b = p.blk) w (Go.Sort.grow (Go.Sort.putRow id (Go.Sort.ahead w n) p.blk p.off F) os) := by
  have hob := h.obs i _ p ho.get hp
  unfold ObRel at hob
  obtain ⟨q1, q2, q3, q4, cs, ty, q5, q6, q7, q8⟩ := hob
  have hlc := rowCells_length l
  have hlc' := rowCells_length l'
  rw [hl] at hlc'
  have q7' : (rowCells l).length ≤ cs.size := q7
  have hat : (Go.Sort.putRow id w p.blk p.off F).heap[p.blk]? = some (.cells (putCells id p.off F cs) ty (0, 0)) := by
    show (w.heap.modify p.blk (onCells (putCells id p.off F)))[p.blk]? = _
    rw [Array.getElem?_modify, if_pos rfl, q5]; rfl
  have hsz : (putCells id p.off F cs).size = cs.size := by simp [putCells]
  have hother : ∀ k, k ≠ p.blk → (Go.Sort.putRow id w p.blk p.off F).heap[k]? = w.heap[k]? := by
    intro k hk
    show (w.heap.modify p.blk (onCells (putCells id p.off F)))[k]? = _
    rw [Array.getElem?_modify, if_neg (fun e => hk e.symm)]
  have hhs : (Go.Sort.putRow id w p.blk p.off F).heap.size = w.heap.size := by
    show (w.heap.modify p.blk (onCells (putCells id p.off F))).size = _
    simp
  have h1 : Sim base ρ (σ.set i (Row l')) (Go.Sort.putRow id w p.blk p.off F) := by
    refine h.write ho.get hp (.inl rfl) (.inl rfl) hhs hother ?_
    refine ⟨q1, q2, q3, q4, putCells id p.off F cs, ty, hat, by rw [hsz]; exact q6, by rw [hsz]; show (rowCells l').length ≤ _; omega, fun j c hc => ?_⟩
    have hj : j < (rowCells l').length := by
      rcases Nat.lt_or_ge j (rowCells l').length with k | k
      · exact k
      · have hc' : (rowCells l')[j]? = some c := hc
        rw [List.getElem?_eq_none k] at hc'; cases hc'
    obtain ⟨k1, u, k2, k3⟩ := hR j c hc
    refine ⟨k1, u, ?_, k3⟩
    rw [putCells_get _ _ _ _ (by omega), q4, if_pos ⟨by omega, by omega⟩]
    have hjF : j < F.size := by omega
    rw [Nat.sub_zero, getElem!_pos F j hjF]
    rw [Array.getElem?_eq_getElem hjF] at k2
    exact k2
  have e : Go.Sort.putRow id (Go.Sort.ahead w n) p.blk p.off F = Go.Sort.ahead (Go.Sort.putRow id w p.blk p.off F) n := rfl
  rw [e]
  refine ⟨h1.grown n os, rfl, rfl, rfl, ?_, fun k hk hB => ?_⟩
  · show w.heap.size ≤ ((Go.Sort.putRow id w p.blk p.off F).heap ++ os).size
    rw [Array.size_append, hhs]; omega
  · show ((Go.Sort.putRow id w p.blk p.off F).heap ++ os)[k]? = _
    rw [Array.getElem?_append_left (by omega)]
    exact hother k hB

def RetSort (σ₀ σ : Store) (s : AV) (l : List α) : AV → Store → Prop := fun r' σ' => r' = .lit (.tuple #[]) ∧ OW σ₀ σ' s l ∧ ∀ (j : Nat) (o : Ob), (∀ n, s ≠ .sl j 0 n) → σ[j]? = some o → σ'[j]? = some o

theorem acall_put {P : Program} {base : Nat} {f : FuncId} {σ₀ σ : Store} {i : Nat} {l l' : List α} {az : List AV} (hb : l.length ≤ 4294967296) (hi : σ₀.length ≤ i) (hl : l'.length = l.length) (h1 : ∀ x ∈ l', ∀ c ∈ Enc.enc x, c.one = true)
    (hat : Has σ i (Row l))
    (h : ∀ (w : World) (ρ : Pl) (p : Place) (cap : Nat) (vs : List Value), Sim base ρ σ w → ρ i = some p → Rs ρ az vs → Calls P f (.slice (some ⟨p.blk, p.off, none⟩) l.length cap :: vs).toArray w fun e w' =>
      e = .returned (.tuple #[]) ∧ ∃ n os F, w' = Go.Sort.grow (Go.Sort.putRow id (Go.Sort.ahead w n) p.blk p.off F) os ∧ F.size = l.length * Enc.e α ∧ ∀ (j : Nat) (c : AV), (rowCells l')[j]? = some c → ∃ u : Value, F[j]? = some u ∧ R ρ c u) :
    ACall P base f (.sl i 0 l.length :: az) σ (fun j => ∃ n, AV.sl i 0 l.length = .sl j 0 n) (RetSort σ₀ σ (.sl i 0 l.length) l') := by
  intro w ρ vs hvs hsim
  cases hvs with
  | cons hv hvs =>
    cases hv with
    | @sl _ _ _ cap p hp hle hroom =>
      refine (h w ρ p cap _ hsim hp hvs).mono ?_
      rintro e w' ⟨rfl, n, os, F, rfl, hF, hR⟩
      have hone : ∀ c ∈ rowCells l', c.one = true := by
        intro c hc
        unfold rowCells at hc
        obtain ⟨x, hx, hc⟩ := List.mem_flatMap.mp hc
        exact h1 x hx c hc
      obtain ⟨k1, k2⟩ := hsim.putRow hat hp F hF hl (fun j c hc => ⟨hone c (List.mem_of_getElem? hc), hR j c hc⟩) n os
      have hown : p.own = true := (Ob.live_own (hsim.obs i _ p hat.get hp) (.inl rfl)).1
      have hlt := hat.lt
      refine ⟨.lit (.tuple #[]), .tuple #[], _, ρ, rfl, .lit _, ⟨rfl, ?_, ?_⟩, k1, Le.refl _, by simp, fun _ _ h _ => h, fun j q hq hj => ?_, ?_⟩
      · rw [← hl]
        exact ow_of_has ⟨by simp [hlt]⟩ hi rfl (by omega)
      · intro j o hj ho
        rw [List.getElem?_set_ne]
        · exact ho
        · rintro rfl; exact hj _ rfl
      · have := hsim.dom j q hq; omega
      · refine ⟨k2.os, k2.tape, k2.output, k2.size, fun k hk hB => k2.block k hk fun e => hB ?_⟩
        subst e
        exact ⟨i, p, ⟨_, rfl⟩, hp, hown, rfl⟩
theorem acall_same {P : Program} {base : Nat} {f : FuncId} {σ₀ σ : Store} {s : AV} {l : List α} {az : List AV} {T : Nat → Prop} (how : OW σ₀ σ s l)
    (h : ∀ (w : World) (ρ : Pl) (vs : List Value), Sim base ρ σ w → Rs ρ az vs → Calls P f vs.toArray w fun e w' => e = .returned (.tuple #[]) ∧ w' = w) :
    ACall P base f az σ T (RetSort σ₀ σ s l) := by
  intro w ρ vs hvs hsim
  refine (h w ρ vs hsim hvs).mono ?_
  rintro e w' ⟨rfl, rfl⟩
  exact ⟨.lit (.tuple #[]), .tuple #[], σ, ρ, rfl, .lit _, ⟨rfl, how, fun _ _ _ h => h⟩, hsim, Le.refl _, Nat.le_refl _, fun _ _ h _ => h, fun j q hq hj => by have := hsim.dom j q hq; omega, Fr.refl _ _ _⟩

theorem Sim.rowCell {base : Nat} {ρ : Pl} {σ : Store} {w : World} (h : Sim base ρ σ w) {i : Nat} {l : List α} {p : Place} (ho : Has σ i (Row l)) (hp : ρ i = some p) :
    p.blk < w.heap.size ∧ ∀ (j : Nat) (c : AV), (rowCells l)[j]? = some c → (∃ u : Value, w.cell? ⟨p.blk, p.off + j, none⟩ = some u ∧ R ρ c u) ∧ w.frozen? ⟨p.blk, p.off + j, none⟩ = false := by
  refine ⟨h.size i p hp, fun j c hc => ?_⟩
  have hob := h.obs i _ p ho.get hp
  unfold ObRel at hob
  obtain ⟨q1, q2, q3, q4, cs, ty, q5, q6, q7, q8⟩ := hob
  obtain ⟨_, u, h2, h3⟩ := q8 j c hc
  refine ⟨⟨u, ?_, h3⟩, ?_⟩
  · simp [World.cell?, q5, q4, h2]
  · simp [World.frozen?, q5]
end

def sortN (l : List Nat) : List Nat := ((l.map Int.ofNat).mergeSort fun x y => decide (x ≤ y)).map Int.toNat
theorem rowCells_mv (l : List Mv) (j : Nat) : (rowCells l)[j]? = (l[j / 2]?).map fun m => if j % 2 = 0 then I m.1 else I m.2 := by
  induction l generalizing j with
  | nil => simp [rowCells]
  | cons x l ih =>
    rw [rowCells_cons]
    match j with
    | 0 => rfl
    | 1 => rfl
    | j + 2 =>
      have e : (Enc.enc x ++ rowCells l)[j + 2]? = (rowCells l)[j]? := rfl
      rw [e, ih]
      have e1 : (j + 2) / 2 = j / 2 + 1 := by omega
      have e2 : (j + 2) % 2 = j % 2 := by omega
      rw [e1, e2]; rfl
def encV (m : Mv) : List Value := [.int .i64 m.1, .int .i64 m.2]
theorem flat_get (d : Array Mv) (t : Nat) (h : t < d.size * 2) : (flatK encV 2 d)[t]! = if t % 2 = 0 then .int .i64 d[t / 2]!.1 else .int .i64 d[t / 2]!.2 := by
  rw [get_flatK _ _ _ _ h]
  rcases Nat.mod_two_eq_zero_or_one t with e | e
  · rw [e]; rfl
  · rw [e]; rfl
theorem acall_sortM {P : Program} {base : Nat} {ρ' : Ren} (L : SlLaysF0.n6 P ρ') (aE : ∀ w, (isAgg (ρ'.t 24)).run P w = .ok true w) (zE : ∀ w, (Go.sizeOf (ρ'.t 24)).run P w = .ok 2 w) (cf : Mv → Mv → Int) (hO : SWO (ltOf cf)) (hT : ∀ x y, (ltOf cf) x y = false → (ltOf cf) y x = false → x = y) (g : Nat)
    (eg : ∀ args w, (callFunc g args).run P w = .ok (.enter g args) w) (hcmp : ∀ (x y : Mv) (W : World), Calls P g #[.agg #[.int .i64 x.1, .int .i64 x.2], .agg #[.int .i64 y.1, .int .i64 y.2]] W fun e w' => e = .returned (.int .i64 (cf x y)) ∧ ∃ q os', w' = Go.Sort.grow (W.drewN q) os')
    {σ₀ σ : Store} {s : AV} {l : List Mv} (h : OW σ₀ σ s l) : ACall P base (ρ'.f 6) [s, .fn g []] σ (fun j => ∃ n, s = .sl j 0 n) (RetSort σ₀ σ s (l.mergeSort fun x y => !(ltOf cf) y x)) := by
  have hb := h.bound
  rcases h.rep with ⟨rfl, rfl⟩ | ⟨i, rfl, hi, hh⟩
  · refine acall_same (l := ([] : List Mv).mergeSort fun x y => !(ltOf cf) y x) (by rw [show (([] : List Mv).mergeSort fun x y => !(ltOf cf) y x) = [] from by simp]; exact OW.nilS _ _) fun w ρ vs hs hv => ?_
    cases hv with
    | cons h1 h2 =>
      cases h1
      cases h2 with
      | cons h1 h2 =>
        cases h2
        exact AnyF.slices_SortFunc_none { L with } none 0 _ w
  · have hlen : (l.mergeSort fun x y => !(ltOf cf) y x).length = l.length := List.length_mergeSort _
    refine acall_put hb hi hlen (fun x _ => one_mv x.1 x.2) hh fun w ρ p cap vs hs hp hv => ?_
    obtain ⟨hblk, hc⟩ := hs.rowCell hh hp
    have hH : HoldsK encV 2 w p.blk p.off l.toArray := by
      intro j hj
      have hj2 : j < l.length * 2 := by simpa using hj
      have hj3 : j / 2 < l.length := by omega
      obtain ⟨⟨u, h1, h2⟩, h3⟩ := hc j (if j % 2 = 0 then I l[j / 2].1 else I l[j / 2].2) (by rw [rowCells_mv]; simp [hj3])
      refine ⟨?_, h3⟩
      rw [h1, flat_get _ _ (by simpa using hj2), getElem!_pos _ _ (by simpa using hj3)]
      rcases Nat.mod_two_eq_zero_or_one j with e | e <;> rw [e] at h2 ⊢ <;> (cases h2; rfl)
    cases hv with
    | cons hv1 hv2 =>
      cases hv2
      cases hv1 with
      | fn hcs =>
        cases hcs
        have key := AnyQ.slices_SortFunc_total L 2 aE zE encV (fun _ => rfl) (fun x v hv => by simp [encV] at hv; rcases hv with rfl | rfl <;> rfl) cf hO g #[] p.blk p.off cap l.toArray w eg (fun m os dk hs x y => hcmp x y _) hH hblk (by simp; omega) hT
        refine key.mono ?_
        rintro e w' ⟨rfl, n, os, rfl⟩
        refine ⟨rfl, n, os, flatK encV 2 (l.mergeSort fun x y => !(ltOf cf) y x).toArray, rfl, ?_, fun j c hc => ?_⟩
        · rw [size_flatK, List.size_toArray, hlen]; rfl
        · rw [rowCells_mv] at hc
          cases hx : (l.mergeSort fun x y => !(ltOf cf) y x)[j / 2]? with
          | none => rw [hx] at hc; cases hc
          | some x =>
            rw [hx] at hc; simp only [Option.map_some, Option.some.injEq] at hc; subst hc
            have hj : j / 2 < (l.mergeSort fun x y => !(ltOf cf) y x).length := by
              rcases Nat.lt_or_ge (j / 2) (l.mergeSort fun x y => !(ltOf cf) y x).length with k | k
              · exact k
              · rw [List.getElem?_eq_none k] at hx; cases hx
            have hj2 : j < (flatK encV 2 (l.mergeSort fun x y => !(ltOf cf) y x).toArray).size := by rw [size_flatK, List.size_toArray]; omega
            have hg := flat_get (l.mergeSort fun x y => !(ltOf cf) y x).toArray j (by rw [List.size_toArray]; omega)
            rw [getElem!_pos (flatK encV 2 (l.mergeSort fun x y => !(ltOf cf) y x).toArray) j hj2] at hg
            rw [Array.getElem?_eq_getElem hj2, hg, getElem!_pos (l.mergeSort fun x y => !(ltOf cf) y x).toArray (j / 2) (by simpa using hj)]
            rw [List.getElem?_eq_getElem hj] at hx
            cases hx
            refine ⟨_, rfl, ?_⟩
            rcases Nat.mod_two_eq_zero_or_one j with e | e <;> rw [e] <;> exact .lit _

end Go.Proofs.YthbodgnoadlbcaaGreatDoor.Asl
