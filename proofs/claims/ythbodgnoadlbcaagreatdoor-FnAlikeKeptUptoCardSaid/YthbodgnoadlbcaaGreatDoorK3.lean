/- Rows of terms that share; what a search for a graph's states keeps. -/
import Derived.Test.YthbodgnoadlbcaaGreatDoorK2
import Derived.Test.YthbodgnoadlbcaaGreatDoorT26
import Derived.Test.YthbodgnoadlbcaaGreatDoorG2
import Derived.Laws.Strings
import Derived.Test.YthbodgnoadlbcaaGreatDoorBB
namespace Go.Proofs.YthbodgnoadlbcaaGreatDoor.Asl
open Go.RowKit Go.Proofs.YthbodgnoadlbcaaGreatDoorW.PrintLast
set_option linter.unusedVariables false
set_option linter.unusedSimpArgs false
set_option maxHeartbeats 4000000
structure TmC where
  op : Int
  n : Int
  s : AV
  one : s.one = true
instance encTm : Enc TmC := ⟨3, fun x => [I x.op, I x.n, x.s], ⟨0, 0, nilS, rfl⟩, by decide, fun _ => rfl⟩
theorem one_tmc (x : TmC) : ∀ c ∈ Enc.enc x, c.one = true := by
  intro c hc
  simp [Enc.enc] at hc
  rcases hc with rfl | rfl | rfl
  · rfl
  · rfl
  · exact x.one
theorem one_str (s : ByteArray) : ∀ c ∈ Enc.enc s, c.one = true := fun c hc => by simp [Enc.enc] at hc; subst hc; rfl
def NA (s : AV) : Nat → Prop := fun i => ∀ n, s ≠ .sl i 0 n
theorem RepTs.lt {σ : Store} {F : Nat → Prop} {s : AV} {ps : List Tm} (h : RepTs σ F s ps) : RepTs σ (fun i => F i ∧ i < σ.length) s ps := by
  induction h with
  | nil => exact .nil
  | row ss h1 h2 h3 h4 h45 h5 h6 h7 ih => exact .row ss ⟨h1, Has.lt ⟨h2⟩⟩ h2 h3 h4 h45 h5 h6 ih
theorem RTsG.app {α : Type} [Enc α] {σ₀ σ σ' : Store} {s s' u : AV} {ps : List Tm} (h : App σ₀ σ s s' σ') (hu : RTsG (NA s) σ u ps) : RTsG (NA s') σ' u ps :=
  ⟨hu.rep.lt.mono (fun i o hi ho => h.keep i o (.inr hi.1) ho) (fun i hi n e => by
    rcases h.fresh with e' | ⟨j, m, e', hj⟩
    · rw [e'] at e; exact hi.1 n e
    · rw [e'] at e; cases e; have := hi.2; omega)⟩
theorem rtsG_old {σ σ' : Store} {d s : AV} {ds : List Tm} (h : RTs σ d ds) (l : LeS σ σ') (hs : ∀ j n, s = .sl j 0 n → σ.length ≤ j) : RTsG (NA s) σ' d ds :=
  ⟨h.rep.lt.mono (fun i o _ ho => l.keep i o ho) (fun i hi n e => by have := hs i n e; have := hi.2; omega)⟩
theorem na_new {α : Type} [Enc α] {σ₀ σ : Store} {s : AV} {l : List α} (h : OW σ₀ σ s l) : ∀ i, σ.length ≤ i → NA s i := by
  intro i hi n e
  rcases h.rep with ⟨_, e2⟩ | ⟨id, e2, _, hh⟩
  · rw [e2] at e; cases e
  · rw [e2] at e; cases e
    have := hh.lt; omega
theorem ow_ids {α : Type} [Enc α] {σ₀ σ : Store} {s : AV} {l : List α} (h : OW σ₀ σ s l) : ∀ j n, s = .sl j 0 n → σ₀.length ≤ j := by
  intro j n e
  rcases h.rep with ⟨_, e2⟩ | ⟨id, e2, hi, hh⟩
  · rw [e2] at e; cases e
  · rw [e2] at e; cases e; exact hi
theorem SRl.app {G G' : Nat → Prop} {σ σ' : Store} {l : List StC} {L : List Stp} (hk : ∀ (u : AV) (ps : List Tm), RTsG G σ u ps → RTsG G' σ' u ps) (h : SRl G σ l L) : SRl G' σ' l L := by
  induction h with
  | nil => exact .nil
  | cons h1 h2 h3 h4 _ ih => exact .cons h1 h2 h3 (hk _ _ h4) ih
inductive TRl (G : Nat → Prop) (σ : Store) : List TmC → List Tm → Prop
  | nil : TRl G σ [] []
  | cons {x : TmC} {t : Tm} {l : List TmC} {S : List Tm} : x.op = t.op → x.n = t.n → RTsG G σ x.s t.ps → TRl G σ l S → TRl G σ (x :: l) (t :: S)
theorem TRl.len {G : Nat → Prop} {σ : Store} {l : List TmC} {S : List Tm} (h : TRl G σ l S) : l.length = S.length := by
  induction h with
  | nil => rfl
  | cons _ _ _ _ ih => simp [ih]
theorem TRl.app {G G' : Nat → Prop} {σ σ' : Store} {l : List TmC} {S : List Tm} (hk : ∀ (u : AV) (ps : List Tm), RTsG G σ u ps → RTsG G' σ' u ps) (h : TRl G σ l S) : TRl G' σ' l S := by
  induction h with
  | nil => exact .nil
  | cons h1 h2 h3 _ ih => exact .cons h1 h2 (hk _ _ h3) ih
theorem TRl.append {G : Nat → Prop} {σ : Store} {l l' : List TmC} {S S' : List Tm} (h : TRl G σ l S) (h' : TRl G σ l' S') : TRl G σ (l ++ l') (S ++ S') := by
  induction h with
  | nil => exact h'
  | cons h1 h2 h3 _ ih => exact .cons h1 h2 h3 ih
theorem TRl.at {G : Nat → Prop} {σ : Store} {l : List TmC} {S : List Tm} (h : TRl G σ l S) : ∀ {k : Nat}, k < S.length → (l.getD k Enc.dflt).op = (S.getD k nilT).op ∧ (l.getD k Enc.dflt).n = (S.getD k nilT).n ∧ RTsG G σ (l.getD k Enc.dflt).s (S.getD k nilT).ps := by
  induction h with
  | nil => intro k hk; simp at hk
  | cons h1 h2 h3 _ ih =>
    intro k hk
    cases k with
    | zero => exact ⟨h1, h2, h3⟩
    | succ k => simpa using ih (k := k) (by simpa using hk)
theorem OW.kn {α : Type} [Enc α] {σ₀ σ σ' : Store} {n : Nat} {s : AV} {l : List α} (h : OW σ₀ σ s l) (k : KN σ n σ') (ne : Enc.e α ≠ n) : OW σ₀ σ' s l :=
  ⟨h.bound, by
    rcases h.rep with h | ⟨id, h1, h2, h3⟩
    · exact .inl h
    · exact .inr ⟨id, h1, h2, ⟨k.keep id _ ne h3.get⟩⟩⟩
theorem ORs.kn {α : Type} [Enc α] {σ₀ σ σ' : Store} {n : Nat} {ss : List AV} {g : List (List α)} (h : ORs σ₀ σ ss g) (k : KN σ n σ') (ne : Enc.e α ≠ n) : ORs σ₀ σ' ss g :=
  ⟨h.len, fun j => (h.row j).kn k ne, h.apart⟩
theorem RW.kn {α : Type} [Enc α] {σ σ' : Store} {n : Nat} {s : AV} {l : List α} (h : RW σ s l) (k : KN σ n σ') (ne : Enc.e α ≠ n) : RW σ' s l :=
  ⟨h.bound, by
    rcases h.rep with h | ⟨id, off, o, h1, h2, h3, h4, h5⟩
    · exact .inl h
    · exact .inr ⟨id, off, o, h1, k.keep id o (by rw [h4]; exact ne) h2, h3, h4, h5⟩⟩
theorem OW.les {α : Type} [Enc α] {σ₀ σ σ' : Store} {s : AV} {l : List α} (h : OW σ₀ σ s l) (k : LeS σ σ') : OW σ₀ σ' s l := have := k.grow; instOWGrow (h := h)
theorem ORs.les {α : Type} [Enc α] {σ₀ σ σ' : Store} {ss : List AV} {g : List (List α)} (h : ORs σ₀ σ ss g) (k : LeS σ σ') : ORs σ₀ σ' ss g := have := k.grow; instORsGrow (h := h)
theorem nes_symm {α : Type} [Enc α] {σ₀ σ : Store} {u v : AV} {l : List α} (hu : OW σ₀ σ u l) (h : NeS u v) : NeS v u := by
  refine ⟨fun j n off m e1 e2 => ?_⟩
  rcases hu.rep with ⟨_, e⟩ | ⟨q, e, _⟩
  · rw [e] at e2; cases e2
  · rw [e] at e2; cases e2
    exact h.ne _ _ 0 n e e1
structure GS (σ2 σb σ : Store) (i8 : Nat) (sv tv gv : AV) (xs : List TmC) (S : List Tm) (us : List AV) (g : Gr) : Prop where
  le : LeS σ2 σ
  lb : σb.length ≤ σ.length
  so : OW σ2 σ sv xs
  tr : TRl (NA sv) σ xs S
  to : OW σ2 σ tv (S.map fun u => ofL u.txt)
  hb : Has σ i8 ⟨.own, 1, [gv], []⟩
  go : OW σb σ gv us
  gr : ORs σb σ us g
  ne : NeS tv gv
  ni : ∀ n, tv ≠ .sl i8 0 n
theorem GS.les {σ2 σb σ σ' : Store} {i8 : Nat} {sv tv gv : AV} {xs : List TmC} {S : List Tm} {us : List AV} {g : Gr} (h : GS σ2 σb σ i8 sv tv gv xs S us g) (k : LeS σ σ') : GS σ2 σb σ' i8 sv tv gv xs S us g :=
  ⟨h.le.trans k, Nat.le_trans h.lb k.len, h.so.les k, h.tr.app fun u ps hu => hu.les k, h.to.les k, ⟨k.keep _ _ h.hb.get⟩, h.go.les k, h.gr.les k, h.ne, h.ni⟩
theorem GS.appS {σ2 σb σ σ' : Store} {i8 : Nat} {sv sv' tv gv : AV} {xs : List TmC} {S : List Tm} {us : List AV} {g : Gr} (h : GS σ2 σb σ i8 sv tv gv xs S us g) (a : App σ2 σ sv sv' σ') {x : TmC} {y : Tm} (ho : OW σ2 σ' sv' (xs ++ [x]))
    (h1 : x.op = y.op) (h2 : x.n = y.n) (h3 : RTsG (NA sv) σ x.s y.ps) : LeS σ2 σ' ∧ σb.length ≤ σ'.length ∧ TRl (NA sv') σ' (xs ++ [x]) (S ++ [y]) ∧ OW σ2 σ' tv (S.map fun u => ofL u.txt) ∧ Has σ' i8 ⟨.own, 1, [gv], []⟩ ∧ OW σb σ' gv us ∧ ORs σb σ' us g := by
  have kn := a.kn h.so
  have hb := h.hb
  refine ⟨a.les (Nat.le_refl _) h.le, Nat.le_trans h.lb a.len, (h.tr.app fun u ps hu => hu.app (α := TmC) a).append (.cons h1 h2 (h3.app (α := TmC) a) .nil), h.to.kn kn (by decide), ?_, h.go.kn kn (by decide), h.gr.kn kn (by decide)⟩
  exact ⟨kn.keep _ _ (by show 1 ≠ Enc.e TmC; decide) hb.get⟩
theorem GS.appG {σ2 σb σ σ1 σ3 σ4 : Store} {i8 : Nat} {sv tv gv gv' r : AV} {xs : List TmC} {S : List Tm} {us : List AV} {g : Gr} {l : List Mv} {o : Ob} (h : GS σ2 σb σ i8 sv tv gv xs S us g) (hb0 : Has σb i8 o) (h2 : σ2.length ≤ i8) (g1 : LeS σ σ1) (hv : OW σ σ1 r l)
    (a : App σb σ1 gv gv' σ3) (ho : OW σb σ3 gv' (us ++ [r])) (u : Upd σ3 i8 ⟨.own, 1, [gv'], []⟩ σ4) : GS σ2 σb σ4 i8 sv tv gv' xs S (us ++ [r]) (g ++ [l]) := by
  have h1 := h.les g1
  have hlt := hb0.lt
  have kn : KN σ1 1 σ3 := a.kn h1.go
  have hgi : ∀ n, gv ≠ .sl i8 0 n := fun n e => by have := ow_ids h1.go i8 n e; omega
  have h3 : Has σ3 i8 ⟨.own, 1, [gv], []⟩ := a.has h1.hb hgi
  have kn2 : KN σ3 1 σ4 := kn_upd u h3
  have hl4 := Upd.len u
  have n3 : NeS gv tv := nes_symm h1.to h1.ne
  have hne : Enc.e AV ≠ Enc.e Mv := by decide
  refine ⟨⟨fun i o ho => ?_⟩, by have := h1.lb; have := a.len; omega, (h1.so.kn kn (by decide)).kn kn2 (by decide), h1.tr.app fun v ps hu => (hu.kn kn ⟨by decide⟩).kn kn2 ⟨by decide⟩, ?_, instHasUpd (g := u), ?_, rows_push hne h.gr h.go h.lb hb0 hv g1 a u, ?_, h.ni⟩
  · have hi : i < σ2.length := Has.lt ⟨ho⟩
    rw [u.eq, List.getElem?_set_ne (by omega)]
    exact a.keep i o (.inl (by omega)) (h1.le.keep i o ho)
  · exact (a.ow h1.to (fun j n m e => n3.ne j n 0 m e)).keep fun j x _ ⟨n, e⟩ hx => by
      rw [u.eq, List.getElem?_set_ne (fun q => h.ni n (by rw [q]; exact e))]; exact hx
  · exact ho.keep fun j x hj _ hx => by rw [u.eq, List.getElem?_set_ne (by omega)]; exact hx
  · exact nes_symm ho (a.nes h1.to.rw n3)
theorem GS.appM {σ2 σb σh σ σ' : Store} {i8 : Nat} {sv tv gv w w' : AV} {xs : List TmC} {S : List Tm} {us : List AV} {g : Gr} {ms : List Mv} (h : GS σ2 σb σ i8 sv tv gv xs S us g) (hl : σ2.length ≤ σh.length) (hw : OW σh σ w ms) (hn : ∀ j n m, w = .sl j 0 n → AV.sl j 0 m ∉ us) (a : App σh σ w w' σ') :
    GS σ2 σb σ' i8 sv tv gv xs S us g ∧ ∀ j n m, w' = .sl j 0 n → AV.sl j 0 m ∉ us := by
  have kn : KN σ 2 σ' := a.kn hw
  have hb := h.hb
  refine ⟨⟨a.les hl h.le, Nat.le_trans h.lb a.len, h.so.kn kn (by decide), h.tr.app fun u ps hu => hu.kn kn ⟨by decide⟩, h.to.kn kn (by decide), ⟨kn.keep _ _ (by show 1 ≠ 2; decide) hb.get⟩, h.go.kn kn (by decide), a.ors h.gr hn, h.ne, h.ni⟩, ?_⟩
  intro j n m e hm
  rcases a.fresh with e' | ⟨q, z, e', hq⟩
  · exact hn j n m (e' ▸ e) hm
  · rw [e'] at e; cases e
    have := h.gr.lt hm; omega
section
variable {E : Env} {ops : Array Oper} {l : List Oper} {Q : Exit → Slots → Store → Prop} {S : Slots} {σ σ₀ : Store} {d : Option Tmp} {ty : TypeId} {pos : String} {af : Array Edge} {g : Option (Nat × Bool)} {n0 : Nat} {x y : Operand} {t e : TypeId}
theorem ofL_beq (a b : List UInt8) : ((ofL a).toList == (ofL b).toList) = decide (a = b) := by
  rw [ByteArray.toList_eq, ByteArray.toList_eq, Bool.eq_iff_iff]
  simp only [beq_iff_eq, decide_eq_true_eq]
theorem pc_strNe {xt yt : TypeId} {a b : List UInt8} (hx : S.ev x = some (Str (ofL a))) (hy : S.ev y = some (Str (ofL b))) : PO E S σ n0 ⟨d, .binOp .neq xt x y yt, ty, pos, af, g⟩ (Bo (!decide (a = b))) := by
  have := po_binOp (E := E) (σ := σ) (n0 := n0) (d := d) (ty := ty) (pos := pos) (af := af) (g := g) (op := .neq) (xt := xt) (yt := yt) hx hy rfl
  rwa [ofL_beq] at this
theorem wc_oneTmC {bytes : Nat} {z : Value} {a b : Int} {s : AV} [h1 : One s] (hx : S.ev x = some (.agg [I a, I b, s])) (ht : Un E.P t (.slice e)) (he : Ty E.P e true 3 bytes z) (hz : z.cells.size = 3) (hz1 : ∀ v ∈ z.cells.toList, v.oneCell' = true) (hd : okd E d = true)
    (k : ∀ i σ', Grow σ σ' → New σ i → Has σ' i (Row [(⟨a, b, s, h1.eq⟩ : TmC)]) → WL E ops l Q (S.put d (.sl i 0 1)) σ') : WL E ops (⟨d, .buildSlice t 1 #[(0, x)], ty, pos, af, none⟩ :: l) Q S σ :=
  wc_row1 (⟨a, b, s, h1.eq⟩ : TmC) hx rfl (one_tmc _) ht he rfl hz hz1 (by decide) hd k
theorem wc_oneStr {bytes : Nat} {z : Value} {s : ByteArray} (hx : S.ev x = some (Str s)) (ht : Un E.P t (.slice e)) (he : Ty E.P e false 1 bytes z) (hz : z.cells.size = 1) (hz1 : ∀ v ∈ z.cells.toList, v.oneCell' = true) (hd : okd E d = true)
    (k : ∀ i σ', Grow σ σ' → New σ i → Has σ' i (Row [s]) → WL E ops l Q (S.put d (.sl i 0 1)) σ') : WL E ops (⟨d, .buildSlice t 1 #[(0, x)], ty, pos, af, none⟩ :: l) Q S σ :=
  wc_row1 s hx rfl (one_str _) ht he rfl hz hz1 (by decide) hd k
theorem pc_ldTmC {s : AV} {k : Nat} {bytes : Nat} {z : Value} {xs : List TmC} (hx : S.ev x = some (.pt s.id (s.off + k * 3))) (ht : Ty E.P t true 3 bytes z) (h : RW σ₀ s xs) (hk : k < xs.length) (hl : LeS σ₀ σ) : PO E S σ σ₀.length ⟨d, .load t x, ty, pos, af, g⟩ (.agg [I (xs.getD k Enc.dflt).op, I (xs.getD k Enc.dflt).n, (xs.getD k Enc.dflt).s]) :=
  pc_loadnL hx ht (at_row h hk) hl
end
end Go.Proofs.YthbodgnoadlbcaaGreatDoor.Asl
