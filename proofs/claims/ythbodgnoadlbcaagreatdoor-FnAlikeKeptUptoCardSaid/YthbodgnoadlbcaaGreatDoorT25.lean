/- How a list of steps lies in the store. -/
import Derived.Test.YthbodgnoadlbcaaGreatDoorT24
import Derived.Test.YthbodgnoadlbcaaGreatDoorGG
import Derived.Test.YthbodgnoadlbcaaGreatDoorTU
import Derived.Test.YthbodgnoadlbcaaGreatDoorDD
namespace Go.Proofs.YthbodgnoadlbcaaGreatDoor.Asl
open Go.RowKit Go.Proofs.YthbodgnoadlbcaaGreatDoorW.PrintLast
set_option linter.unusedVariables false
set_option linter.unusedSimpArgs false
structure StC where
  act : Int
  op : Int
  n : Int
  s : AV
  one : s.one = true
instance encSt : Enc StC := ⟨4, fun x => [I x.act, I x.op, I x.n, x.s], ⟨0, 0, 0, nilS, rfl⟩, by decide, fun _ => rfl⟩
theorem one_st (x : StC) : ∀ c ∈ Enc.enc x, c.one = true := by
  intro c hc
  simp [Enc.enc] at hc
  rcases hc with rfl | rfl | rfl | rfl
  · rfl
  · rfl
  · rfl
  · exact x.one
theorem RepTs.mono3 {σ σ' : Store} {F F' : Nat → Prop} (hk : ∀ (i : Nat) (o : Ob), F i → o.readable → o.esz = 3 → σ[i]? = some o → σ'[i]? = some o) (hF : ∀ i, F i → F' i) {s : AV} {ps : List Tm} (h : RepTs σ F s ps) : RepTs σ' F' s ps := by
  induction h with
  | nil => exact .nil
  | row ss h1 h2 h3 h4 h45 h5 h6 h7 ih => exact .row ss (hF _ h1) (hk _ _ h1 h3 h4 h2) h3 h4 h45 h5 h6 fun k t s ht hs => ih k t s ht hs
class KN (σ : outParam Store) (n : outParam Nat) (σ' : Store) : Prop where
  keep : ∀ (i : Nat) (o : Ob), o.esz ≠ n → σ[i]? = some o → σ'[i]? = some o
class NE (e n : Nat) : Prop where
  ne : e ≠ n
instance instNE12 : NE 1 2 := ⟨by decide⟩
instance instNE13 : NE 1 3 := ⟨by decide⟩
instance instNE14 : NE 1 4 := ⟨by decide⟩
instance instNE21 : NE 2 1 := ⟨by decide⟩
instance instNE23 : NE 2 3 := ⟨by decide⟩
instance instNE24 : NE 2 4 := ⟨by decide⟩
instance instNE31 : NE 3 1 := ⟨by decide⟩
instance instNE32 : NE 3 2 := ⟨by decide⟩
instance instNE34 : NE 3 4 := ⟨by decide⟩
instance instNE41 : NE 4 1 := ⟨by decide⟩
instance instNE42 : NE 4 2 := ⟨by decide⟩
instance instNE43 : NE 4 3 := ⟨by decide⟩
theorem kn_upd {σ σ' : Store} {i e : Nat} {o' : Ob} {k : Kind} {l : List AV} {m : List (Value × AV)} (u : Upd σ i o' σ') (h : Has σ i ⟨k, e, l, m⟩) : KN σ e σ' :=
  ⟨fun j o he ho => by
    have : i ≠ j := fun q => by subst q; rw [h.get] at ho; cases ho; exact he rfl
    rw [u.eq, List.getElem?_set_ne this]; exact ho⟩
instance instKNUpd {σ σ' : Store} {i e : Nat} {o' : Ob} {k : Kind} {l : List AV} {m : List (Value × AV)} [u : Upd σ i o' σ'] [h : Has σ i ⟨k, e, l, m⟩] : KN σ e σ' := kn_upd u h
instance instHasKN {σ σ' : Store} {n j e : Nat} {k : Kind} {l : List AV} {m : List (Value × AV)} [q : KN σ n σ'] [h : Has σ j ⟨k, e, l, m⟩] [ne : NE e n] : Has σ' j ⟨k, e, l, m⟩ := ⟨q.keep _ _ ne.ne h.get⟩
theorem RTs.kn {σ σ' : Store} {n : Nat} {s : AV} {ps : List Tm} (h : RTs σ s ps) (k : KN σ n σ') (ne : NE 3 n) : RTs σ' s ps := ⟨h.rep.mono3 (fun i o _ _ he ho => k.keep i o (by rw [he]; exact ne.ne) ho) (fun _ _ => trivial)⟩
instance instRTsKN {σ σ' : Store} {n : Nat} {s : AV} {ps : List Tm} [k : KN σ n σ'] [h : RTs σ s ps] [ne : NE 3 n] : RTs σ' s ps := h.kn k ne
class RTsG (G : outParam (Nat → Prop)) (σ : Store) (s : AV) (ps : outParam (List Tm)) : Prop where
  rep : RepTs σ G s ps
variable {G : Nat → Prop}
theorem RTsG.keep {σ σ' : Store} {s : AV} {ps : List Tm} (h : RTsG G σ s ps) (hk : ∀ (i : Nat) (o : Ob), o.readable → o.esz = 3 → σ[i]? = some o → σ'[i]? = some o) : RTsG G σ' s ps := ⟨h.rep.mono3 (fun i o _ => hk i o) (fun _ h => h)⟩
instance instRTsG {σ : Store} {s : AV} {ps : List Tm} [h : RTsG G σ s ps] : RTs σ s ps := ⟨h.rep.mono (fun _ _ _ h => h) (fun _ _ => trivial)⟩
instance instRTsGGrow {σ σ' : Store} {s : AV} {ps : List Tm} [g : Grow σ σ'] [h : RTsG G σ s ps] : RTsG G σ' s ps := h.keep fun i o _ _ ho => g.keep i o ho
theorem RTsG.kn {σ σ' : Store} {n : Nat} {s : AV} {ps : List Tm} (h : RTsG G σ s ps) (k : KN σ n σ') (ne : NE 3 n) : RTsG G σ' s ps := h.keep fun i o _ he ho => k.keep i o (by rw [he]; exact ne.ne) ho
instance instRTsGKN {σ σ' : Store} {n : Nat} {s : AV} {ps : List Tm} [k : KN σ n σ'] [h : RTsG G σ s ps] [ne : NE 3 n] : RTsG G σ' s ps := h.kn k ne
instance instRTsGUpd {σa σ σ' : Store} {i : Nat} {o' : Ob} {s : AV} {ps : List Tm} [g : Upd σ i o' σ'] [n : New σa i] [k : LeS σa σ] [h : RTsG G σa s ps] : RTsG G σ' s ps :=
  h.keep fun j o _ _ ho => (instLeUpd (h := k) (k := instLeRefl) (n := n) (g := g)).keep j o ho
instance instRTsGMk {σ σa σb σ' : Store} {s : AV} {ps : List Tm} [m : Mk σ σa σb σ'] [a : LeS σa σ] [h : RTsG G σa s ps] : RTsG G σ' s ps :=
  h.keep fun j o _ _ ho => m.keep j o (.inl (Has.lt ⟨ho⟩)) (a.keep j o ho)
theorem RTsG.les {σ σ' : Store} {s : AV} {ps : List Tm} (h : RTsG G σ s ps) (g : LeS σ σ') : RTsG G σ' s ps := h.keep fun i o _ _ ho => g.keep i o ho
theorem RTsG.one {σ : Store} {s : AV} {ps : List Tm} (h : RTsG G σ s ps) : One s := (instRTsG (h := h)).one
theorem RTsG.part {σ : Store} {s : AV} {ps : List Tm} (h : RTsG G σ s ps) {k : Nat} (hk : k < ps.length) :
    ∃ id off s', s = .sl id off ps.length ∧ At σ id (off + k * 3) 3 [I ps[k].op, I ps[k].n, s'] ∧ RTsG G σ s' ps[k].ps := by
  cases h.rep with
  | nil => simp at hk
  | @row id off o _ ss h1 h2 h3 h4 h45 h5 h6 h9 =>
    have h7 := h6 k ps[k] ss[k] (by simp [hk]) (by simp [h5, hk])
    have h8 := h9 k ps[k] ss[k] (by simp [hk]) (by simp [h5, hk])
    exact ⟨id, off, ss[k], rfl, ⟨o, h2, h3, h7, rfl⟩, ⟨h8⟩⟩
theorem RTsG.of {σ : Store} {s : AV} {ps : List Tm} (h : RTs σ s ps) : RTsG (fun _ => True) σ s ps := ⟨h.rep⟩
theorem RTsG.nil {σ : Store} : RTsG G σ nilS [] := ⟨.nil⟩
theorem App.kn {α : Type} [Enc α] {σ₀ σ₁ σ σ' : Store} {s s' : AV} {l : List α} (h : App σ₀ σ s s' σ') (ho : OW σ₁ σ s l) : KN σ (Enc.e α) σ' :=
  ⟨fun j o he hj => h.keep j o (.inr fun n e => by
    subst e
    rcases ho.rep with ⟨_, e⟩ | ⟨i, e, _, h1⟩
    · cases e
    · cases e
      have := h1.get.symm.trans hj
      simp at this
      subst this
      exact he rfl) hj⟩
class NeS (v u : AV) : Prop where
  ne : ∀ j n off m, v = .sl j 0 n → u ≠ .sl j off m
theorem App.rw {α : Type} [Enc α] {σ₀ σ σ' : Store} {s s' u : AV} {l : List α} (h : App σ₀ σ s s' σ') (hu : RW σ u l) (hne : NeS s u) : RW σ' u l :=
  hu.mono fun o ⟨off, n, e⟩ ho => h.keep _ o (.inr fun m em => hne.ne _ _ off n em e) ho
theorem App.nes {α : Type} [Enc α] {σ₀ σ σ' : Store} {s s' u : AV} {l : List α} (h : App σ₀ σ s s' σ') (hu : RW σ u l) (hne : NeS s u) : NeS s' u := by
  rcases h.fresh with e | ⟨j, n, e, hj⟩
  · rw [e]; exact hne
  · refine ⟨fun j' n' off m e1 e2 => ?_⟩
    rw [e] at e1; cases e1
    rcases hu.rep with ⟨_, a, c, e3⟩ | ⟨id, o, ob, e3, h3, _⟩
    · rw [e2] at e3; cases e3
    · rw [e2] at e3; cases e3
      have := Has.lt (σ := σ) ⟨h3⟩
      omega
theorem nes_old {α : Type} [Enc α] {σ₁ σ : Store} {v u : AV} {l : List α} (hv : ∀ j n, v = .sl j 0 n → j < σ₁.length) (hu : OW σ₁ σ u l) : NeS v u := by
  refine ⟨fun j n off m e1 e2 => ?_⟩
  have h1 := hv j n e1
  rcases hu.rep with ⟨_, e3⟩ | ⟨id, e3, h3, _⟩
  · rw [e2] at e3; cases e3
  · rw [e2] at e3; cases e3; omega
theorem nes_new {α : Type} [Enc α] {σ : Store} {i n : Nat} {u : AV} {l : List α} (hu : RW σ u l) (hn : σ.length ≤ i) : NeS (.sl i 0 n) u := by
  refine ⟨fun j n' off m e1 e2 => ?_⟩
  cases e1
  rcases hu.rep with ⟨_, a, c, e3⟩ | ⟨id, o, ob, e3, h3, _⟩
  · rw [e2] at e3; cases e3
  · rw [e2] at e3; cases e3
    have := Has.lt (σ := σ) ⟨h3⟩
    omega

inductive SRl (G : Nat → Prop) (σ : Store) : List StC → List Stp → Prop
  | nil : SRl G σ [] []
  | cons {x : StC} {y : Stp} {l : List StC} {L : List Stp} : x.act = y.1 → x.op = y.2.op → x.n = y.2.n → RTsG G σ x.s y.2.ps → SRl G σ l L → SRl G σ (x :: l) (y :: L)
theorem SRl.mono {σ σ' : Store} {l : List StC} {L : List Stp} (hk : ∀ (i : Nat) (o : Ob), o.readable → o.esz = 3 → σ[i]? = some o → σ'[i]? = some o) (h : SRl G σ l L) : SRl G σ' l L := by
  induction h with
  | nil => exact .nil
  | cons h1 h2 h3 h4 _ ih => exact .cons h1 h2 h3 (h4.keep hk) ih
theorem SRl.len {σ : Store} {l : List StC} {L : List Stp} (h : SRl G σ l L) : l.length = L.length := by
  induction h with
  | nil => rfl
  | cons _ _ _ _ _ ih => simp [ih]
theorem SRl.append {σ : Store} {l l' : List StC} {L L' : List Stp} (h : SRl G σ l L) (h' : SRl G σ l' L') : SRl G σ (l ++ l') (L ++ L') := by
  induction h with
  | nil => exact h'
  | cons h1 h2 h3 h4 _ ih => exact .cons h1 h2 h3 h4 ih
theorem SRl.get {σ : Store} {l : List StC} {L : List Stp} (h : SRl G σ l L) : ∀ {k : Nat} {x : StC} {y : Stp}, l[k]? = some x → L[k]? = some y → x.act = y.1 ∧ x.op = y.2.op ∧ x.n = y.2.n ∧ RTsG G σ x.s y.2.ps := by
  induction h with
  | nil => intro k x y hx; simp at hx
  | cons h1 h2 h3 h4 _ ih =>
    intro k x y hx hy
    cases k with
    | zero => simp at hx hy; subst hx hy; exact ⟨h1, h2, h3, h4⟩
    | succ k => exact ih (by simpa using hx) (by simpa using hy)
class SR (G : outParam (Nat → Prop)) (σ : Store) (l : List StC) (L : outParam (List Stp)) : Prop where
  rep : SRl G σ l L
instance instSRGrow {σ σ' : Store} {l : List StC} {L : List Stp} [g : Grow σ σ'] [h : SR G σ l L] : SR G σ' l L := ⟨h.rep.mono fun i o _ _ ho => g.keep i o ho⟩
theorem SR.kn {σ σ' : Store} {n : Nat} {l : List StC} {L : List Stp} (h : SR G σ l L) (k : KN σ n σ') (ne : NE 3 n) : SR G σ' l L := ⟨h.rep.mono fun i o hr he ho => k.keep i o (by rw [he]; exact ne.ne) ho⟩
instance instSRKN {σ σ' : Store} {n : Nat} {l : List StC} {L : List Stp} [g : KN σ n σ'] [h : SR G σ l L] [ne : NE 3 n] : SR G σ' l L := h.kn g ne
instance instSRUpd {σa σ σ' : Store} {i : Nat} {o' : Ob} {l : List StC} {L : List Stp} [g : Upd σ i o' σ'] [n : New σa i] [k : LeS σa σ] [h : SR G σa l L] : SR G σ' l L :=
  ⟨h.rep.mono fun j o _ _ ho => (instLeUpd (h := k) (k := instLeRefl) (n := n) (g := g)).keep j o ho⟩
instance instSRMk {σ σa σb σ' : Store} {l : List StC} {L : List Stp} [m : Mk σ σa σb σ'] [a : LeS σa σ] [h : SR G σa l L] : SR G σ' l L :=
  ⟨h.rep.mono fun j o _ _ ho => m.keep j o (.inl (Has.lt ⟨ho⟩)) (a.keep j o ho)⟩
theorem SR.les {σ σ' : Store} {l : List StC} {L : List Stp} (h : SR G σ l L) (g : LeS σ σ') : SR G σ' l L := ⟨h.rep.mono fun i o _ _ ho => g.keep i o ho⟩
theorem SR.at {σ : Store} {l : List StC} {L : List Stp} (h : SR G σ l L) {k : Nat} (hk : k < L.length) : (l.getD k Enc.dflt).act = (L.getD k (0, nilT)).1 ∧ (l.getD k Enc.dflt).op = (L.getD k (0, nilT)).2.op ∧ (l.getD k Enc.dflt).n = (L.getD k (0, nilT)).2.n ∧ RTsG G σ (l.getD k Enc.dflt).s (L.getD k (0, nilT)).2.ps := by
  have hl := h.rep.len
  exact h.rep.get (k := k) (by simp [List.getD_eq_getElem?_getD, hl, hk]) (by simp [List.getD_eq_getElem?_getD, hk])
theorem SR.len' {σ : Store} {l : List StC} {L : List Stp} (h : SR G σ l L) : l.length = L.length := h.rep.len
theorem SR.nil (G : Nat → Prop) (σ : Store) : SR G σ [] [] := ⟨.nil⟩
theorem SR.snoc {σ : Store} {l : List StC} {L : List Stp} {x : StC} {y : Stp} (h : SR G σ l L) (h1 : x.act = y.1) (h2 : x.op = y.2.op) (h3 : x.n = y.2.n) (h4 : RTsG G σ x.s y.2.ps) : SR G σ (l ++ [x]) (L ++ [y]) := ⟨h.rep.append (.cons h1 h2 h3 h4 .nil)⟩
theorem SR.append {σ : Store} {l l' : List StC} {L L' : List Stp} (h : SR G σ l L) (h' : SR G σ l' L') : SR G σ (l ++ l') (L ++ L') := ⟨h.rep.append h'.rep⟩
def RetSt (G : Nat → Prop) (σ : Store) (L : List Stp) : AV → Store → Prop := fun r σ' => ∃ l, OW σ σ' r l ∧ SR G σ' l L ∧ Grow σ σ'
theorem ret_st {σ σ₁ σ' : Store} {s : AV} {l : List StC} {L L' : List Stp} (h : OW σ₁ σ' s l) (h2 : SR G σ' l L') (k : LeS σ σ₁) (g : LeS σ σ') (e : L' = L) : RetSt G σ L s σ' := by
  subst e; exact ⟨l, h.down k.len, h2, g.grow⟩
section
variable {E : Env} {ops : Array Oper} {l : List Oper} {Q : Exit → Slots → Store → Prop} {S : Slots} {σ σ₀ : Store} {d : Option Tmp} {ty : TypeId} {pos : String} {af : Array Edge} {g : Option (Nat × Bool)} {n0 : Nat} {x y x0 x1 : Operand} {t e : TypeId}
theorem wc_callSt {args : Array Operand} {ats : Array TypeId} {f : FuncId} {rs caps : List AV} {L : List Stp} (hf : S.ev x = some (.fn f caps)) (hc : Callable E.P f) (hargs : evs S args.toList = some rs)
    (h : ACall E.P E.base f (rs ++ caps) σ (fun _ => False) (RetSt G σ L)) (hd : okd E d = true) (k : ∀ u xs σ', One u → OW σ σ' u xs → SR G σ' xs L → Grow σ σ' → WL E ops l Q (S.put d u) σ') :
    WL E ops (⟨d, .call ⟨.value x, args, ats⟩, ty, pos, af, none⟩ :: l) Q S σ :=
  wc_call hf hc hargs h hd fun r' σ' h => by obtain ⟨xs, h1, h2, hg⟩ := h; exact k r' xs σ' h1.one h1 h2 hg
theorem pc_buildSt {bytes : Nat} {z : Value} {a b c : Int} {s : AV} [h1 : One s] (hx : S.ev x0 = some (I a)) (hy : S.ev x1 = some (.agg [I b, I c, s])) (hst : StructAt E.P t [(0, 1), (1, 3)]) (ht : Ty E.P t true 4 bytes z) (hz : z.cells.toList = [.int .i64 0, .int .i64 0, .int .i64 0, .slice none 0 0]) :
    PO E S σ n0 ⟨d, .build t #[(0, x0), (1, x1)], ty, pos, af, g⟩ (.agg [I a, I b, I c, s]) := by
  have hzs : z.cells.size = 4 := by rw [← Array.length_toList, hz]; rfl
  refine po_build (rs := [(0, I a), (1, .agg [I b, I c, s])]) hst ht (by simp [evParts, hx, hy]) ?_ ?_
  · intro r hr
    simp only [List.mem_cons, List.not_mem_nil, or_false] at hr
    rcases hr with rfl | rfl
    · exact ⟨0, 1, rfl, rfl, by omega⟩
    · exact ⟨1, 3, rfl, rfl, by omega⟩
  · rw [hz]; rfl
theorem pc_buildSt1 {bytes : Nat} {z : Value} {b c : Int} {s : AV} [h1 : One s] (hy : S.ev x1 = some (.agg [I b, I c, s])) (hst : StructAt E.P t [(0, 1), (1, 3)]) (ht : Ty E.P t true 4 bytes z) (hz : z.cells.toList = [.int .i64 0, .int .i64 0, .int .i64 0, .slice none 0 0]) :
    PO E S σ n0 ⟨d, .build t #[(1, x1)], ty, pos, af, g⟩ (.agg [I 0, I b, I c, s]) := by
  have hzs : z.cells.size = 4 := by rw [← Array.length_toList, hz]; rfl
  refine po_build (rs := [(1, .agg [I b, I c, s])]) hst ht (by simp [evParts, hy]) ?_ ?_
  · intro r hr
    simp only [List.mem_cons, List.not_mem_nil, or_false] at hr
    rcases hr with rfl
    exact ⟨1, 3, rfl, rfl, by omega⟩
  · rw [hz]; rfl
theorem wc_oneSt {bytes : Nat} {z : Value} {a b c : Int} {s : AV} [h1 : One s] (hx : S.ev x = some (.agg [I a, I b, I c, s])) (ht : Un E.P t (.slice e)) (he : Ty E.P e true 4 bytes z) (hz : z.cells.size = 4) (hz1 : ∀ v ∈ z.cells.toList, v.oneCell' = true) (hd : okd E d = true)
    (k : ∀ i σ', Grow σ σ' → New σ i → Has σ' i (Row [(⟨a, b, c, s, h1.eq⟩ : StC)]) → WL E ops l Q (S.put d (.sl i 0 1)) σ') : WL E ops (⟨d, .buildSlice t 1 #[(0, x)], ty, pos, af, none⟩ :: l) Q S σ :=
  wc_row1 (⟨a, b, c, s, h1.eq⟩ : StC) hx rfl (one_st _) ht he rfl hz hz1 (by decide) hd k
theorem wc_appendSt {s : AV} {xs : List StC} {u : StC} {j : Nat} {bytes : Nat} {z : Value} (hx : S.ev x = some s) (hy : S.ev y = some (.sl j 0 1)) (ht : Un E.P t (.slice e)) (he : Ty E.P e true 4 bytes z) (hz : z.cells.size = 4) (hb0 : 0 < bytes) (hb : bytes ≤ 4096)
    (hs : OW σ₀ σ s xs) (hh : Has σ j (Row [u])) (hlen : xs.length < 4294967296) (hm : ∀ id, σ₀.length ≤ id → E.may id) (h0 : σ₀.length ≤ σ.length) (hd : okd E d = true)
    (k : ∀ s' σ', App σ₀ σ s s' σ' → Mk σ σ₀ σ σ' → KN σ 4 σ' → OW σ₀ σ' s' (xs ++ [u]) → One s' → WL E ops l Q (S.put d s') σ') :
    WL E ops (⟨d, .call ⟨.builtin .append, #[x, y], #[t, t]⟩, ty, pos, af, none⟩ :: l) Q S σ :=
  wc_append1 (α := StC) hx hy ht he hz hb0 hb hs hh (one_st _) hlen hm h0 hd fun s' σ' h1 h2 h3 h4 => k s' σ' h1 h2 (h1.kn hs) h3 h4
theorem wc_appendRows {s y' : AV} {xs ys : List StC} {bytes : Nat} {z : Value} (hx : S.ev x = some s) (hy : S.ev y = some y') (ht : Un E.P t (.slice e)) (he : Ty E.P e true 4 bytes z) (hz : z.cells.size = 4) (hb0 : 0 < bytes)
    (hs : OW σ₀ σ s xs) (hys : RW σ y' ys) (hlen : xs.length + ys.length ≤ 4294967296) (hb : bytes ≤ 4096) (hm : ∀ id, σ₀.length ≤ id → E.may id) (h0 : σ₀.length ≤ σ.length) (hd : okd E d = true)
    (k : ∀ s' σ', App σ₀ σ s s' σ' → Mk σ σ₀ σ σ' → KN σ 4 σ' → OW σ₀ σ' s' (xs ++ ys) → One s' → WL E ops l Q (S.put d s') σ') :
    WL E ops (⟨d, .call ⟨.builtin .append, #[x, y], #[t, t]⟩, ty, pos, af, none⟩ :: l) Q S σ := by
  by_cases hne : s = nilS → 0 < ys.length
  · exact wc_appendRow (α := StC) hx hy ht he hz hb0 hs hys (fun u _ => one_st u) hlen hb hm h0 hd hne fun s' σ' h1 h2 h3 => k s' σ' h1 h1.turned (h1.kn hs) h2 h3
  · have h1 : s = nilS := Classical.byContradiction fun h => hne fun q => absurd q h
    have h2 : ys = [] := by
      have : ¬ 0 < ys.length := fun h => hne fun _ => h
      exact List.length_eq_zero_iff.mp (by omega)
    subst h1 h2
    have hxs : xs = [] := by
      rcases hs.rep with ⟨e, _⟩ | ⟨_, e, _⟩
      · exact e
      · cases e
    subst hxs
    have hap : Appends E.P σ 4 0 y' [] := hys.appends (P := E.P) (fun u _ => one_st u)
    refine wl_append_nil_none hx hy ht.eq he hap hd ?_
    have ha : App σ₀ σ nilS nilS σ := ⟨fun _ _ _ h => h, Nat.le_refl _, .inl rfl⟩
    exact k nilS σ ha ha.turned ⟨fun _ _ _ h => h⟩ (OW.nilS _ _) ⟨rfl⟩
theorem at_sub3 {σ : Store} {i off : Nat} {a b c f : AV} (h : At σ i off 4 [a, b, c, f]) : At σ i (off + 1) 3 [b, c, f] := by
  obtain ⟨o, h1, h2, h3, h4⟩ := h.get
  refine ⟨o, h1, h2, ?_, rfl⟩
  unfold cut at h3 ⊢
  apply List.ext_getElem?
  intro j
  have := congrArg (fun l : List AV => l[j + 1]?) h3
  simp only [List.getElem?_take, List.getElem?_drop, List.getElem?_cons_succ] at this ⊢
  rw [← this]
  by_cases hj : j < 3
  · rw [if_pos hj, if_pos (by omega)]; congr 1; omega
  · rw [if_neg hj, if_neg (by omega)]
theorem pc_ldStA {s : AV} {k : Nat} {bytes : Nat} {z : Value} {xs : List StC} (hx : S.ev x = some (.pt s.id (s.off + k * 4 + 0))) (ht : Ty E.P t false 1 bytes z) (h : RW σ₀ s xs) (hk : k < xs.length) (hl : LeS σ₀ σ) : PO E S σ σ₀.length ⟨d, .load t x, ty, pos, af, g⟩ (I (xs.getD k Enc.dflt).act) :=
  pc_load1L hx ht (at_sub (at_row h hk) rfl) hl
theorem pc_ldStT {s : AV} {k : Nat} {bytes : Nat} {z : Value} {xs : List StC} (hx : S.ev x = some (.pt s.id (s.off + k * 4 + 1))) (ht : Ty E.P t true 3 bytes z) (h : RW σ₀ s xs) (hk : k < xs.length) (hl : LeS σ₀ σ) : PO E S σ σ₀.length ⟨d, .load t x, ty, pos, af, g⟩ (.agg [I (xs.getD k Enc.dflt).op, I (xs.getD k Enc.dflt).n, (xs.getD k Enc.dflt).s]) :=
  pc_loadnL hx ht (at_sub3 (at_row h hk)) hl
theorem pc_ldSt {s : AV} {k : Nat} {bytes : Nat} {z : Value} {xs : List StC} (hx : S.ev x = some (.pt s.id (s.off + k * 4))) (ht : Ty E.P t true 4 bytes z) (h : RW σ₀ s xs) (hk : k < xs.length) (hl : LeS σ₀ σ) : PO E S σ σ₀.length ⟨d, .load t x, ty, pos, af, g⟩ (.agg [I (xs.getD k Enc.dflt).act, I (xs.getD k Enc.dflt).op, I (xs.getD k Enc.dflt).n, (xs.getD k Enc.dflt).s]) :=
  pc_loadnL hx ht (at_row h hk) hl
end
theorem rtsG_one {σ : Store} {j : Nat} {t : Tm} {u : AV} (hG : G j) (h : RTsG G σ u t.ps) (hh : Has σ j ⟨.own, 3, [I t.op, I t.n, u], []⟩) : RTsG G σ (.sl j 0 1) [t] :=
  ⟨.row (ps := [t]) [u] hG hh.get (.inr rfl) rfl (by simp) rfl (fun k t' s' ht hs => by
    have := get_lt ht
    obtain rfl : k = 0 := by simpa using this
    simp at ht hs; subst ht hs; rfl) (fun k t' s' ht hs => by
    have := get_lt ht
    obtain rfl : k = 0 := by simpa using this
    simp at ht hs; subst ht hs; exact h.rep)⟩
theorem rtsG_two {σ : Store} {j : Nat} {t t' : Tm} {u u' : AV} (hG : G j) (h : RTsG G σ u t.ps) (h' : RTsG G σ u' t'.ps) (hh : Has σ j ⟨.own, 3, [I t.op, I t.n, u, I t'.op, I t'.n, u'], []⟩) : RTsG G σ (.sl j 0 2) [t, t'] :=
  ⟨.row (ps := [t, t']) [u, u'] hG hh.get (.inr rfl) rfl (by simp) rfl (fun k t1 s1 ht hs => by
    have := get_lt ht
    simp at this
    rcases (by omega : k = 0 ∨ k = 1) with rfl | rfl
    · simp at ht hs; subst ht hs; rfl
    · simp at ht hs; subst ht hs; rfl) (fun k t1 s1 ht hs => by
    have := get_lt ht
    simp at this
    rcases (by omega : k = 0 ∨ k = 1) with rfl | rfl
    · simp at ht hs; subst ht hs; exact h.rep
    · simp at ht hs; subst ht hs; exact h'.rep)⟩
theorem RTsG.pair {σ : Store} {s : AV} {p q : Tm} (h : RTsG G σ s [p, q]) : ∃ id off a b, s = .sl id off 2 ∧ At σ id (off + Int.toNat 0 * 3) 3 [I p.op, I p.n, a] ∧ At σ id (off + Int.toNat 1 * 3) 3 [I q.op, I q.n, b] ∧ RTsG G σ a p.ps ∧ RTsG G σ b q.ps := by
  obtain ⟨id, off, a, e, h1, h2⟩ := h.part (k := 0) (by simp)
  obtain ⟨id', off', b, e', h3, h4⟩ := h.part (k := 1) (by simp)
  rw [e] at e'; cases e'
  exact ⟨id, off, a, b, e, h1, h3, h2, h4⟩
theorem RTsG.sole {σ : Store} {s : AV} {p : Tm} (h : RTsG G σ s [p]) : ∃ id off a, s = .sl id off 1 ∧ At σ id (off + Int.toNat 0 * 3) 3 [I p.op, I p.n, a] ∧ RTsG G σ a p.ps := by
  obtain ⟨id, off, a, e, h1, h2⟩ := h.part (k := 0) (by simp)
  exact ⟨id, off, a, e, h1, h2⟩
theorem gup {σ σ' : Store} (hG : ∀ i, σ.length ≤ i → G i) (l : LeS σ σ') : ∀ i, σ'.length ≤ i → G i := fun i hi => hG i (Nat.le_trans l.len hi)
end Go.Proofs.YthbodgnoadlbcaaGreatDoor.Asl
