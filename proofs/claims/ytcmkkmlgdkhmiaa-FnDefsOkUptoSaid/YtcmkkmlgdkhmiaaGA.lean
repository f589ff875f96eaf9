/- Rules for rows that are written down and appended to. -/
import Derived.Test.YtcmkkmlgdkhmiaaGX
import Derived.Test.YtcmkkmlgdkhmiaaB6
namespace Go.Proofs.Ytcmkkmlgdkhmiaa.Asl
open Go.RowKit Go.Proofs.YtcmkkmlgdkhmiaaW.PrintLast
set_option linter.unusedVariables false
set_option linter.unusedSimpArgs false

theorem may_ge {σs : Store} (σ₀ : Store) {T : Nat → Prop} [h : LeS σs σ₀] : ∀ id, σ₀.length ≤ id → T id ∨ σs.length ≤ id := fun _ hi => .inr (Nat.le_trans h.len hi)
theorem App.turned {σ₀ σ σ' : Store} {s s' : AV} (h : App σ₀ σ s s' σ') : Mk σ σ₀ σ σ' := ⟨fun j o hj ho => h.keep j o (hj.elim .inl fun h1 => by have := Has.lt (σ := σ) (i := j) ⟨ho⟩; omega) ho⟩
instance instOWUpdNew {α : Type} [Enc α] {σ₀ σa σ σ' : Store} {i : Nat} {o' : Ob} {s : AV} {l : List α} [u : Upd σ i o' σ'] [n : New σa i] [k : LeS σa σ] [h : OW σ₀ σa s l] : OW σ₀ σ' s l :=
  h.keep fun j x _ _ ho => (instLeUpd (h := k) (k := instLeRefl) (n := n) (g := u)).keep j x ho
instance instORsUpdNew {α : Type} [Enc α] {σ₀ σa σ σ' : Store} {i : Nat} {o' : Ob} {ss : List AV} {g : List (List α)} [u : Upd σ i o' σ'] [n : New σa i] [k : LeS σa σ] [h : ORs σ₀ σa ss g] : ORs σ₀ σ' ss g :=
  h.keep fun j x _ _ ho => (instLeUpd (h := k) (k := instLeRefl) (n := n) (g := u)).keep j x ho
instance instOWMkOld {α : Type} [Enc α] {σ₀ σ σa σb σ' : Store} {s : AV} {l : List α} [m : Mk σ σa σb σ'] [k : LeS σa σ] [h : OW σ₀ σa s l] : OW σ₀ σ' s l :=
  h.keep fun j x _ _ ho => m.keep j x (.inl (Has.lt ⟨ho⟩)) (k.keep j x ho)
instance instORsMkOld {α : Type} [Enc α] {σ₀ σ σa σb σ' : Store} {ss : List AV} {g : List (List α)} [m : Mk σ σa σb σ'] [k : LeS σa σ] [h : ORs σ₀ σa ss g] : ORs σ₀ σ' ss g :=
  h.keep fun j x _ _ ho => m.keep j x (.inl (Has.lt ⟨ho⟩)) (k.keep j x ho)
/-- What an append to another row leaves of a row. -/
theorem App.ow {α : Type} [Enc α] {σ₀ σ₁ σ σ' : Store} {s s' u : AV} {l : List α} (h : App σ₀ σ s s' σ') (hu : OW σ₁ σ u l) (hne : ∀ j n m, s = .sl j 0 n → u ≠ .sl j 0 m) : OW σ₁ σ' u l :=
  hu.keep fun j o _ ⟨n, e⟩ ho => h.keep j o (.inr fun m em => hne j m n em e) ho
theorem App.ors {α : Type} [Enc α] {σ₀ σ₁ σ σ' : Store} {s s' : AV} {ss : List AV} {g : List (List α)} (h : App σ₀ σ s s' σ') (hu : ORs σ₁ σ ss g) (hne : ∀ j n m, s = .sl j 0 n → AV.sl j 0 m ∉ ss) : ORs σ₁ σ' ss g :=
  hu.keep fun j o _ ⟨n, hn⟩ ho => h.keep j o (.inr fun m em => hne j m n em hn) ho
theorem App.has {σ₀ σ σ' : Store} {s s' : AV} {i : Nat} {o : Ob} (h : App σ₀ σ s s' σ') (hh : Has σ i o) (hne : ∀ n, s ≠ .sl i 0 n) : Has σ' i o := ⟨h.keep i o (.inr hne) hh.get⟩
/-- Rows of different kinds are not the same. -/
theorem ow_ne_of_esz {α β : Type} [Enc α] [Enc β] {σ₀ σ₁ σ : Store} {s u : AV} {l : List α} {r : List β} (h : OW σ₀ σ s l) (k : OW σ₁ σ u r) (hne : Enc.e α ≠ Enc.e β) : ∀ j n m, s = .sl j 0 n → u ≠ .sl j 0 m := by
  rintro j n m rfl rfl
  rcases h.rep with ⟨_, e⟩ | ⟨i, e, _, h1⟩
  · cases e
  · cases e
    rcases k.rep with ⟨_, e⟩ | ⟨i, e, _, h2⟩
    · cases e
    · cases e
      have := h1.get.symm.trans h2.get
      simp at this
      exact hne this.1
theorem ors_ne_of_esz {α β : Type} [Enc α] [Enc β] {σ₀ σ₁ σ : Store} {s : AV} {ss : List AV} {l : List α} {r : List (List β)} (h : OW σ₀ σ s l) (k : ORs σ₁ σ ss r) (hne : Enc.e α ≠ Enc.e β) : ∀ j n m, s = .sl j 0 n → AV.sl j 0 m ∉ ss := by
  rintro j n m rfl hm
  obtain ⟨q, hq, e⟩ := List.getElem_of_mem hm
  have e' : ss.getD q nilS = .sl j 0 m := by simp [List.getD_eq_getElem?_getD, hq, e]
  exact ow_ne_of_esz h (k.row q) hne j n m rfl e'

section
variable {E : Env} {ops : Array Oper} {l : List Oper} {Q : Exit → Slots → Store → Prop} {S : Slots} {σ σ₀ : Store} {d : Option Tmp} {ty : TypeId} {pos : String} {af : Array Edge} {g : Option (Nat × Bool)} {n0 : Nat} {x y : Operand} {t e : TypeId}
theorem pc_buildMv {bytes : Nat} {z : Value} {a b : Int} (hx : S.ev x = some (I a)) (hy : S.ev y = some (I b)) (hst : StructAt E.P t [(0, 1), (1, 1)]) (ht : Ty E.P t true 2 bytes z) (hz : z.cells.toList = [.int .i64 0, .int .i64 0]) :
    PO E S σ n0 ⟨d, .build t #[(0, x), (1, y)], ty, pos, af, g⟩ (.agg [I a, I b]) := by
  have hzs : z.cells.size = 2 := by rw [← Array.length_toList, hz]; rfl
  refine po_build (rs := [(0, I a), (1, I b)]) hst ht (by simp [evParts, hx, hy]) ?_ ?_
  · intro r hr
    simp only [List.mem_cons, List.not_mem_nil, or_false] at hr
    rcases hr with rfl | rfl
    · exact ⟨0, 1, rfl, rfl, by omega⟩
    · exact ⟨1, 1, rfl, rfl, by omega⟩
  · rw [hz]; rfl
theorem pc_build0 {size bytes : Nat} {z : Value} {cs : List AV} {places : List (Nat × Nat)} (hst : StructAt E.P t places) (ht : Ty E.P t true size bytes z) (hcs : z.cells.toList.map .lit = cs) : PO E S σ n0 ⟨d, .build t #[], ty, pos, af, g⟩ (.agg cs) :=
  po_build (rs := []) hst ht rfl (by simp) (by simpa [fillA] using hcs)
/-- A row without elements. -/
theorem wc_row0 {α : Type} [Enc α] {agg : Bool} {size bytes : Nat} {z : Value} (ht : Un E.P t (.slice e)) (he : Ty E.P e agg size bytes z) (hs : size = Enc.e α) (hz : z.cells.size = size) (hz1 : ∀ v ∈ z.cells.toList, v.oneCell' = true) (hd : okd E d = true)
    (k : ∀ i σ', Grow σ σ' → New σ i → Has σ' i (Row ([] : List α)) → WL E ops l Q (S.put d (.sl i 0 0)) σ') : WL E ops (⟨d, .buildSlice t 0 #[], ty, pos, af, none⟩ :: l) Q S σ := by
  subst hs
  exact wc_buildSlice (cs := []) ht.eq he hz hz1 (by simp) rfl (by simp) (by simp [fillA]) hd k
/-- A row of one element. -/
theorem wc_row1 {α : Type} [Enc α] {agg : Bool} {size bytes : Nat} {z : Value} {v : AV} (u : α) (hx : S.ev x = some v) (hu : v.cells = Enc.enc u) (h1 : ∀ c ∈ Enc.enc u, c.one = true) (ht : Un E.P t (.slice e)) (he : Ty E.P e agg size bytes z) (hs : size = Enc.e α) (hz : z.cells.size = size) (hz1 : ∀ v ∈ z.cells.toList, v.oneCell' = true) (hlt : size ≤ 16777216) (hd : okd E d = true)
    (k : ∀ i σ', Grow σ σ' → New σ i → Has σ' i (Row [u]) → WL E ops l Q (S.put d (.sl i 0 1)) σ') : WL E ops (⟨d, .buildSlice t 1 #[(0, x)], ty, pos, af, none⟩ :: l) Q S σ := by
  subst hs
  refine wc_buildSlice (rs := [(0, v)]) (cs := rowCells [u]) ht.eq he hz hz1 (by omega) (by simp [evParts, hx]) ?_ ?_ hd k
  · intro r hr
    simp only [List.mem_cons, List.not_mem_nil, or_false] at hr
    subst hr
    exact ⟨by rw [hu, Enc.len], by simp, by rw [hu]; exact h1⟩
  · simp only [fillA, hu, rowCells_one]
    unfold splice
    simp [Enc.len]
theorem wc_oneMv {bytes : Nat} {z : Value} {a b : Int} (hx : S.ev x = some (.agg [I a, I b])) (ht : Un E.P t (.slice e)) (he : Ty E.P e true 2 bytes z) (hz : z.cells.size = 2) (hz1 : ∀ v ∈ z.cells.toList, v.oneCell' = true) (hd : okd E d = true)
    (k : ∀ i σ', Grow σ σ' → New σ i → Has σ' i (Row [((a, b) : Mv)]) → WL E ops l Q (S.put d (.sl i 0 1)) σ') : WL E ops (⟨d, .buildSlice t 1 #[(0, x)], ty, pos, af, none⟩ :: l) Q S σ :=
  wc_row1 ((a, b) : Mv) hx rfl (fun c hc => by simp [Enc.enc] at hc; rcases hc with rfl | rfl <;> rfl) ht he rfl hz hz1 (by decide) hd k
theorem wc_oneNat {bytes : Nat} {z : Value} {a : Nat} (hx : S.ev x = some (I (a : Int))) (ht : Un E.P t (.slice e)) (he : Ty E.P e false 1 bytes z) (hz : z.cells.size = 1) (hz1 : ∀ v ∈ z.cells.toList, v.oneCell' = true) (hd : okd E d = true)
    (k : ∀ i σ', Grow σ σ' → New σ i → Has σ' i (Row [a]) → WL E ops l Q (S.put d (.sl i 0 1)) σ') : WL E ops (⟨d, .buildSlice t 1 #[(0, x)], ty, pos, af, none⟩ :: l) Q S σ :=
  wc_row1 a hx rfl (fun c hc => by simp [Enc.enc] at hc; subst hc; rfl) ht he rfl hz hz1 (by decide) hd k
theorem wc_oneNatZ {bytes : Nat} {z : Value} {a : Int} (h0 : 0 ≤ a) (hx : S.ev x = some (I a)) (ht : Un E.P t (.slice e)) (he : Ty E.P e false 1 bytes z) (hz : z.cells.size = 1) (hz1 : ∀ v ∈ z.cells.toList, v.oneCell' = true) (hd : okd E d = true)
    (k : ∀ i σ', Grow σ σ' → New σ i → Has σ' i (Row [a.toNat]) → WL E ops l Q (S.put d (.sl i 0 1)) σ') : WL E ops (⟨d, .buildSlice t 1 #[(0, x)], ty, pos, af, none⟩ :: l) Q S σ :=
  wc_oneNat (a := a.toNat) (by rw [hx]; congr 3; omega) ht he hz hz1 hd k
theorem wc_oneInt {bytes : Nat} {z : Value} {a : Int} (hx : S.ev x = some (I a)) (ht : Un E.P t (.slice e)) (he : Ty E.P e false 1 bytes z) (hz : z.cells.size = 1) (hz1 : ∀ v ∈ z.cells.toList, v.oneCell' = true) (hd : okd E d = true)
    (k : ∀ i σ', Grow σ σ' → New σ i → Has σ' i (Row [a]) → WL E ops l Q (S.put d (.sl i 0 1)) σ') : WL E ops (⟨d, .buildSlice t 1 #[(0, x)], ty, pos, af, none⟩ :: l) Q S σ :=
  wc_row1 a hx rfl (fun c hc => by simp [Enc.enc] at hc; subst hc; rfl) ht he rfl hz hz1 (by decide) hd k
theorem wc_oneBool {bytes : Nat} {z : Value} {a : Bool} (hx : S.ev x = some (Bo a)) (ht : Un E.P t (.slice e)) (he : Ty E.P e false 1 bytes z) (hz : z.cells.size = 1) (hz1 : ∀ v ∈ z.cells.toList, v.oneCell' = true) (hd : okd E d = true)
    (k : ∀ i σ', Grow σ σ' → New σ i → Has σ' i (Row [a]) → WL E ops l Q (S.put d (.sl i 0 1)) σ') : WL E ops (⟨d, .buildSlice t 1 #[(0, x)], ty, pos, af, none⟩ :: l) Q S σ :=
  wc_row1 a hx rfl (fun c hc => by simp [Enc.enc] at hc; subst hc; rfl) ht he rfl hz hz1 (by decide) hd k
theorem wc_oneAV {bytes : Nat} {z : Value} {v : AV} (hx : S.ev x = some v) [h1 : One v] (ht : Un E.P t (.slice e)) (he : Ty E.P e false 1 bytes z) (hz : z.cells.size = 1) (hz1 : ∀ v ∈ z.cells.toList, v.oneCell' = true) (hd : okd E d = true)
    (k : ∀ i σ', Grow σ σ' → New σ i → Has σ' i (Row [v]) → WL E ops l Q (S.put d (.sl i 0 1)) σ') : WL E ops (⟨d, .buildSlice t 1 #[(0, x)], ty, pos, af, none⟩ :: l) Q S σ :=
  wc_row1 v hx (AV.cells_one h1.eq) (fun c hc => by simp [Enc.enc] at hc; subst hc; exact h1.eq) ht he rfl hz hz1 (by decide) hd k
/-- One element more. -/
theorem wc_append1 {α : Type} [Enc α] {s : AV} {xs : List α} {u : α} {j : Nat} {agg : Bool} {bytes : Nat} {z : Value} (hx : S.ev x = some s) (hy : S.ev y = some (.sl j 0 1)) (ht : Un E.P t (.slice e)) (he : Ty E.P e agg (Enc.e α) bytes z) (hz : z.cells.size = Enc.e α) (hb0 : 0 < bytes) (hb : bytes ≤ 4096)
    (hs : OW σ₀ σ s xs) (hh : Has σ j (Row [u])) (h1 : ∀ c ∈ Enc.enc u, c.one = true) (hlen : xs.length < 4294967296) (hm : ∀ id, σ₀.length ≤ id → E.may id) (h0 : σ₀.length ≤ σ.length) (hd : okd E d = true)
    (k : ∀ s' σ', App σ₀ σ s s' σ' → Mk σ σ₀ σ σ' → OW σ₀ σ' s' (xs ++ [u]) → One s' → WL E ops l Q (S.put d s') σ') :
    WL E ops (⟨d, .call ⟨.builtin .append, #[x, y], #[t, t]⟩, ty, pos, af, none⟩ :: l) Q S σ :=
  wc_appendRow hx hy ht he hz hb0 hs (rw_of_has hh rfl (by decide)) (by simpa using h1) (by simp; omega) hb hm h0 hd (by simp) fun s' σ' h1 h2 h3 => k s' σ' h1 h1.turned h2 h3
end
/-- One row more behind rows, in a variable. -/
theorem rows_push {α : Type} [Enc α] {σb σ' σ1 σ2 σ3 : Store} {u u' v : AV} {us : List AV} {g : List (List α)} {l : List α} {i : Nat} {o o' : Ob} (hne : Enc.e AV ≠ Enc.e α) (hor : ORs σb σ' us g) (how : OW σb σ' u us) (hlen : σb.length ≤ σ'.length) (hb : Has σb i o) (hv : OW σ' σ1 v l) (g1 : LeS σ' σ1)
    (happ : App σb σ1 u u' σ2) (hu : Upd σ2 i o' σ3) : ORs σb σ3 (us ++ [v]) (g ++ [l]) := by
  have := g1.grow
  have h1 : ORs σb σ1 us g := inferInstance
  have h2 : OW σb σ1 u us := inferInstance
  have h3 := happ.ors h1 (ors_ne_of_esz h2 h1 hne)
  have h4 := happ.ow hv (ow_ne_of_esz h2 hv hne)
  have hlt := hb.lt
  have h5 : ORs σb σ3 us g := inferInstance
  have h6 : OW σ' σ3 v l := h4.keep fun j x hj _ ho => by rw [hu.eq, List.getElem?_set_ne (by omega)]; exact ho
  exact hor.snoc h5 hlen h6
/-- A graph, or none. -/
noncomputable def optB {α : Type} (p : Prop) (x : α) : Option α := match prB p with
  | true => some x
  | false => none
theorem optB_yes {α : Type} {p : Prop} {x : α} (h : p) : optB p x = some x := by unfold optB; rw [prB_true h]
theorem optB_no {α : Type} {p : Prop} {x : α} (h : ¬ p) : optB p x = none := by unfold optB; rw [prB_false h]
def RetGO (σ : Store) (o : Option Gr) : AV → Store → Prop := fun r σ' => ∃ u us, r = .tup [.agg [u], Bo o.isSome] ∧ OW σ σ' u us ∧ ORs σ σ' us (o.getD []) ∧ Grow σ σ'
theorem ret_go_none {σ σ' : Store} {o : Option Gr} (h : o = none) (l : LeS σ σ') : RetGO σ o (.tup [.agg [nilS], Bo false]) σ' := by
  subst h; exact ⟨nilS, [], rfl, OW.nilS _ _, ORs.nil _ _, l.grow⟩
theorem ret_go {σ σ₁ σ₂ σ' : Store} {o : Option Gr} {g : Gr} {u : AV} {us : List AV} (h : o = some g) (h1 : OW σ₁ σ' u us) (k1 : LeS σ σ₁) (h2 : ORs σ₂ σ' us g) (k2 : LeS σ σ₂) (l : LeS σ σ') : RetGO σ o (.tup [.agg [u], Bo true]) σ' := by
  subst h; exact ⟨u, us, rfl, h1.down k1.len, h2.down k2.len, l.grow⟩
section
variable {E : Env} {ops : Array Oper} {l : List Oper} {Q : Exit → Slots → Store → Prop} {S : Slots} {σ : Store} {d : Option Tmp} {ty : TypeId} {pos : String} {af : Array Edge} {x y : Operand}
theorem wc_callGO {args : Array Operand} {ats : Array TypeId} {f : FuncId} {rs caps : List AV} {o : Option Gr} (hf : S.ev x = some (.fn f caps)) (hc : Callable E.P f) (hargs : evs S args.toList = some rs)
    (h : ACall E.P E.base f (rs ++ caps) σ (fun _ => False) (RetGO σ o)) (hd : okd E d = true) (k : ∀ u us σ', One u → OW σ σ' u us → ORs σ σ' us (o.getD []) → Grow σ σ' → WL E ops l Q (S.put d (.tup [.agg [u], Bo o.isSome])) σ') :
    WL E ops (⟨d, .call ⟨.value x, args, ats⟩, ty, pos, af, none⟩ :: l) Q S σ :=
  wc_call hf hc hargs h hd fun r' σ' h => by obtain ⟨u, us, e, h1, h2, hg⟩ := h; subst e; exact k u us σ' h1.one h1 h2 hg
end
theorem one_mv (a b : Int) : ∀ c ∈ Enc.enc ((a, b) : Mv), c.one = true := fun c hc => by simp [Enc.enc] at hc; rcases hc with rfl | rfl <;> rfl
theorem one_nat (a : Nat) : ∀ c ∈ Enc.enc a, c.one = true := fun c hc => by simp [Enc.enc] at hc; subst hc; rfl
theorem one_int (a : Int) : ∀ c ∈ Enc.enc a, c.one = true := fun c hc => by simp [Enc.enc] at hc; subst hc; rfl
theorem one_bool (a : Bool) : ∀ c ∈ Enc.enc a, c.one = true := fun c hc => by simp [Enc.enc] at hc; subst hc; rfl
theorem one_av {a : AV} (h : One a) : ∀ c ∈ Enc.enc a, c.one = true := fun c hc => by simp [Enc.enc] at hc; subst hc; exact h.eq
end Go.Proofs.Ytcmkkmlgdkhmiaa.Asl
