/- More rules for regions that draw: a slice that is written down, and what comes up behind a write. -/
import Derived.Test.YtemhpkfijoodkaaB2
namespace Go.Proofs.Ytemhpkfijoodkaa.Asl
open Go.RowKit Go.Proofs.YtemhpkfijoodkaaW.PrintLast
set_option linter.unusedVariables false
set_option linter.unusedSimpArgs false
section
variable {E : Env} {ops : Array Oper} {Q : Exit → Slots → Store → Prop} {S : Slots} {σ : Store} {d : Option Tmp} {ty : TypeId} {pos : String} {af : Array Edge} {n0 : Nat} {x y : Operand} {ds : List Nat} {fuel : Nat} {listed : Array Bool}
theorem da_buildSlice (i : Nat) {t e : TypeId} {len : Nat} {parts : Array (Nat × Operand)} {rs : List (Nat × AV)} {agg : Bool} {size bytes : Nat} {z : Value} {cs : List AV} (ho : ops[i]? = some ⟨d, .buildSlice t len parts, ty, pos, af, none⟩) (hr : Region.ready .any ops listed = [i]) (ht : E.P.underlying t = some (.slice e)) (he : Ty E.P e agg size bytes z) (hz : z.cells.size = size) (hz1 : ∀ v ∈ z.cells.toList, v.oneCell' = true)
    (hsmall : len * size ≤ 16777216) (hp : evParts S parts.toList = some rs) (hok : ∀ x ∈ rs, x.2.cells.length = size ∧ x.1 * size + size ≤ len * size ∧ ∀ c ∈ x.2.cells, c.one = true)
    (hcs : fillA (fun i => i * size) ((List.range (len * size)).map fun i => AV.lit (z.cells.toList.getD (i % size) undef)) rs = cs) (hd : okd E d = true)
    (k : ∀ j σ', Grow σ σ' → New σ j → Has σ' j ⟨.own, size, cs, []⟩ → DA E ops ds fuel (listed.setIfInBounds i true) Q n0 (S.put d (.sl j 0 len)) σ') : DA E ops ds (fuel + 1) listed Q n0 S σ := by
  refine da_step i _ ho hr rfl ?_
  intro E' hP hbase hn _
  obtain ⟨P, base, n, may, N, B, w₀, ρ₀, n₀⟩ := E
  obtain ⟨P', base', n', may', N', B', w₀', ρ₀', n₀'⟩ := E'
  simp only at hP hbase hn
  subst hP hbase hn
  exact wc_buildSlice ht he hz hz1 hsmall hp hok hcs hd fun j σ' g n h => wl_nil ⟨rfl, g.len, k j σ' g n h⟩
/-- One that comes up behind the first write, told by a walk over it alone. -/
theorem da_last (i : Nat) {g : Option (Nat × Bool)} {op : Op} (ho : ops[i]? = some ⟨d, op, ty, pos, af, g⟩) (hi : i ∈ ds) (hr : Region.ready .any ops listed = [i])
    (h : WL E ops [⟨d, op, ty, pos, af, g⟩] (fun e S' σ' => e = .normal ∧ DL E ops ds fuel (listed.setIfInBounds i true) Q S' σ') S σ) : DA E ops ds (fuel + 1) listed Q n0 S σ := (dl_step i _ ho hi hr rfl h).da
theorem dl_last (i : Nat) {g : Option (Nat × Bool)} {op : Op} (ho : ops[i]? = some ⟨d, op, ty, pos, af, g⟩) (hi : i ∈ ds) (hr : Region.ready .any ops listed = [i])
    (h : WL E ops [⟨d, op, ty, pos, af, g⟩] (fun e S' σ' => e = .normal ∧ DL E ops ds fuel (listed.setIfInBounds i true) Q S' σ') S σ) : DL E ops ds (fuel + 1) listed Q S σ := dl_step i _ ho hi hr rfl h
theorem dl_in {P : Prop} (h : P) : Exit.normal = .normal ∧ P := ⟨rfl, h⟩
end
end Go.Proofs.Ytemhpkfijoodkaa.Asl
