/- Contracts of the functions that the statement reaches, and the plain mathematics beneath: several texts joined. -/
import Derived.Test.YtggngahmafbihaaGreatDoorPwyD
import Derived.Test.YtggngahmafbihaaGreatDoorPwyA
import Derived.Test.YtggngahmafbihaaGreatDoorPwyB
import Derived.Deep.RegionHeld3
import Derived.StillTailTactics
import Derived.IntWalk
import Derived.Deep.RegionLaw
import Derived.Deep.Cut
import Derived.Deep.CutBlock
import Derived.Deep.DeepCutAuto
import Derived.Test.YtggngahmafbihaaGreatDoorPwyC
namespace Go.Proofs.YtggngahmafbihaaGreatDoor
open Go.RowKit Go.Lib
set_option linter.unusedVariables false

theorem pnode_info : (Tryz.prog.info? 31).map (fun i => (i.zero, i.size, i.bytes)) = some (some (.agg #[.int .i64 0, .int .i64 0, .string ⟨#[]⟩, .int .i64 0, .int .i64 0, .string ⟨#[]⟩, .slice none 0 0, .slice none 0 0]), 8, 112) := by kernel_rfl

/-- Blocks of a sort, but for one value's. -/
def SN (w : World) (D : Nat → Prop) (V : Value) : Nat → Prop := fun b => D b ∧ b < w.heap.size ∧ V.ownBlock ≠ some b
/-- A row of nodes of the call's own, all in blocks of a sort. -/
def OwnN (w : World) (D : Nat → Prop) (V : Value) (l : NL) : Prop := ∃ xs, w.ownsRow 0 31 8 V l.len xs ∧ (∀ g, V.ownBlock = some g → D g) ∧ NRow w (SN w D V) l xs
theorem OwnN.nil (w : World) (D : Nat → Prop) : OwnN w D (.slice none 0 0) .nil := ⟨[], World.ownsRow_nil _ _ _ _, fun g e => (by cases e), rfl⟩
theorem OwnN.form {w : World} {D : Nat → Prop} {V : Value} {l : NL} (h : OwnN w D V l) : ∃ (A : Option Addr) (c : Nat), V = .slice A l.len c := by
  obtain ⟨xs, h, _⟩ := h; exact own_form h
theorem OwnN.ge {w : World} {D : Nat → Prop} {V : Value} {l : NL} (h : OwnN w D V l) (k : Nat) (hk : V.ownBlock = some k) : D k ∧ k < w.heap.size := by
  obtain ⟨xs, ho, hD, _⟩ := h; exact ⟨hD k hk, (ho.lt k hk).2⟩
theorem OwnN.wide {w : World} {D D' : Nat → Prop} {V : Value} {l : NL} (h : OwnN w D V l) (hb : ∀ k, D k → k < w.heap.size → D' k) : OwnN w D' V l := by
  have hg := h.ge
  obtain ⟨xs, ho, hD, hx⟩ := h
  exact ⟨xs, ho, fun g hg' => hb g (hD g hg') (hg g hg').2, nrow_keep (fun _ _ => rfl) (fun b hb' => ⟨hb b hb'.1 hb'.2.1, hb'.2⟩) l xs hx⟩
/-- Kept, where all of its blocks are as they were. -/
theorem OwnN.keep {w w' : World} {D : Nat → Prop} {V : Value} {l : NL} (h : OwnN w D V l) (hw : ∀ b, D b → b < w.heap.size → w'.heap[b]? = w.heap[b]?) (hz : w.heap.size ≤ w'.heap.size) : OwnN w' D V l := by
  have hg := h.ge
  obtain ⟨xs, ho, hD, hx⟩ := h
  refine ⟨xs, ?_, hD, nrow_keep (fun b hb => hw b hb.1 hb.2.1) (fun b hb => ⟨hb.1, Nat.lt_of_lt_of_le hb.2.1 hz, hb.2.2⟩) l xs hx⟩
  obtain ⟨h1, h2⟩ := ho
  refine ⟨h1, ?_⟩
  rcases h2 with h2 | ⟨g, cap, cur, hv, hg0, hh, r⟩
  · exact .inl h2
  · have := hg g (by rw [hv]; rfl)
    exact .inr ⟨g, cap, cur, hv, hg0, (hw g this.1 this.2).trans hh, r⟩
theorem OwnN.grown {w w' : World} {D : Nat → Prop} {P : Nat} {V : Value} {l : NL} (h : OwnN w D V l) (hg : w.grownBy w' (some P)) (hP : ¬ D P) : OwnN w' D V l :=
  h.keep (fun b h1 h2 => hg.block b h2 (fun e => by injection e with e; subst e; exact hP h1)) hg.size
theorem OwnN.below {w w' : World} {D : Nat → Prop} {V : Value} {l : NL} (h : OwnN w D V l) (hg : Below w.heap.size w w') : OwnN w' D V l := h.keep (fun b h1 h2 => hg.block b h2) hg.size
/-- What it reads as. -/
theorem OwnN.kids {w : World} {D : Nat → Prop} {V : Value} {l : NL} (h : OwnN w D V l) : ∃ A c, V = .slice A l.len c ∧ l.len ≤ c ∧ (A = none → c = 0) ∧ RpN w (fun k => D k ∧ k < w.heap.size) l A := by
  have hl := h.ge
  obtain ⟨xs, ho, hD, hx⟩ := h
  have hx' := nrow_keep (w' := w) (S' := fun k => D k ∧ k < w.heap.size) (fun _ _ => rfl) (fun b hb => ⟨hb.1, hb.2.1⟩) l xs hx
  rcases ho.2 with ⟨rfl, h0⟩ | ⟨g, cap, cur, rfl, hbg, hg, hnc, hcm, hcs, ht⟩
  · have hl : l = .nil := by
      cases l with
      | nil => rfl
      | cons => simp [NL.len] at h0
    subst hl
    exact ⟨none, 0, rfl, Nat.le_refl _, fun _ => rfl, trivial⟩
  · refine ⟨some ⟨g, 0, none⟩, cap, rfl, hnc, (fun e => by cases e), rpn_of (S := fun k => D k ∧ k < w.heap.size) (hl g rfl) l xs 0 hx' (fun j u hu => ?_)⟩
    have h := ho.cells (g := g) rfl j u hu
    have e : (⟨g, 0, none⟩ : Addr).add j = ⟨g, 0 + j, none⟩ := by unfold Addr.add; split <;> simp_all
    rw [e] at h; exact h

/-- A node as a call gives it: its eight values; what it has is a row of the call's own. -/
def nd8 (op ln : Int) (s : ByteArray) (k n : Int) (t : ByteArray) (va : Option Addr) (vc : Nat) (V : Value) : Array Value := #[.int .i64 op, .int .i64 ln, .string s, .int .i64 k, .int .i64 n, .string t, .slice va 0 vc, V]
/-- One node's cells, as a row. -/
theorem OwnN.row1 {w : World} {D : Nat → Prop} {V : Value} {sub : NL} (h : OwnN w D V sub) (op ln : Int) (s : ByteArray) (k n : Int) (t : ByteArray) (va : Option Addr) (vc : Nat) :
    NRow w (fun k => D k ∧ k < w.heap.size) (nd op ln s k n t sub) (nd8 op ln s k n t va vc V).toList := by
  obtain ⟨A, c, rfl, hc, _, hr⟩ := h.kids
  exact ⟨va, vc, A, c, [], rfl, Nat.zero_le _, trivial, hc, hr, rfl⟩
/-- A row of some nodes laid anew. -/
theorem OwnN.lit {w : World} {D : Nat → Prop} {l : NL} {cs : Array Value} (hx : NRow w (fun k => D k ∧ k < w.heap.size) l cs.toList) (hb : D w.heap.size) (hl : l.len ≤ 1000000000000) :
    OwnN (w.alloc (.cells cs 31)) D (.slice (some ⟨w.heap.size, 0, none⟩) l.len l.len) l := by
  have hz : cs.size = l.len * 8 := by have := nrow_len l _ hx; simpa using this
  refine ⟨cs.toList, World.ownsRow_lit w cs l.len (Nat.zero_le _) (by unfold maxLen; omega) hz, fun g e => ?_, nrow_keep (fun b hb => Below.heap_alloc _ _ _ hb.2) (fun b hb => ⟨hb.1, by simp; omega, fun e => ?_⟩) l _ hx⟩
  · simp [Value.ownBlock] at e
    rw [← e]; exact hb
  · simp [Value.ownBlock] at e
    omega

/-- What an append to such a row is: the row, joined. -/
theorem OwnN.joined {w w' : World} {D : Nat → Prop} {V V' : Value} {a b : NL} {xs ys : List Value} (ho : w.ownsRow 0 31 8 V a.len xs) (hD : ∀ g, V.ownBlock = some g → D g) (hn : D w.heap.size) (hx : NRow w (SN w D V) a xs) (hy : NRow w (SN w D V) b ys)
    (ho' : w'.ownsRow 0 31 8 V' (a.len + b.len) (xs ++ ys)) (hg : w.grownBy w' V.ownBlock) (hob : V'.ownBlock = V.ownBlock ∨ V'.ownBlock = some w.heap.size) : OwnN w' D V' (a.app b) := by
  have hk : ∀ k, SN w D V k → w'.heap[k]? = w.heap[k]? := fun k hk => hg.block k hk.2.1 (fun e => hk.2.2 e.symm)
  have hS : ∀ k, SN w D V k → SN w' D V' k := fun k hk => ⟨hk.1, Nat.lt_of_lt_of_le hk.2.1 hg.size, fun e => by
    rcases hob with h | h
    · exact hk.2.2 (h.symm.trans e)
    · rw [h] at e; injection e with e; have := hk.2.1; omega⟩
  refine ⟨xs ++ ys, by rw [NL.len_app]; exact ho', fun g e => ?_, nrow_app a b xs ys (nrow_keep hk hS a xs hx) (nrow_keep hk hS b ys hy)⟩
  rcases hob with h | h
  · exact hD g (h.symm.trans e)
  · rw [h] at e; injection e with e; rw [← e]; exact hn

/-- append of nodes that lie somewhere to a row of the call's own, run. -/
theorem run_app_nodes {P : Program} {T ty : TypeId} {i : TypeInfo} {z : Value} (w : World) (ht : P.underlying T = some (.slice 31)) (hi : P.info? 31 = some i) (hz : i.zero = some z) (hsize : i.size = 8) (hby : i.bytes = 112) (hzs : z.cells.size = 8)
    {D : Nat → Prop} {V : Value} {a b : NL} (hV : OwnN w D V a) {A : Option Addr} {c : Nat} (hb : RpN w (SN w D V) b A) (hA : A = none → c = 0) (hl : a.len + b.len ≤ 1000000000000) (hn : D w.heap.size) :
    ∃ A' c' w', (Builtin.append_ #[T, T] ty #[V, .slice A b.len c]).run P w = .ok (.slice A' (a.len + b.len) c') w' ∧ OwnN w' D (.slice A' (a.len + b.len) c') (a.app b) ∧ w.grownBy w' V.ownBlock ∧
      ((Value.slice A' (a.len + b.len) c').ownBlock = V.ownBlock ∨ (Value.slice A' (a.len + b.len) c').ownBlock = some w.heap.size) := by
  obtain ⟨xs, ho, hD, hx⟩ := hV
  obtain ⟨ys, hy, hcell⟩ := nrow_of b A hb
  by_cases hN : A = none
  · subst hN
    have hb0 : b = .nil := by
      cases b with
      | nil => rfl
      | cons => obtain ⟨_, _, _, _, _, _, e, _⟩ := hb; cases e
    subst hb0
    obtain rfl : c = 0 := hA rfl
    obtain ⟨A', c', rfl⟩ := own_form ho
    refine ⟨A', c', w, ?_, ?_, ⟨rfl, rfl, rfl, Nat.le_refl _, fun _ _ _ => rfl⟩, .inl rfl⟩
    · have := run_append_owned_none (P := P) (w := w) 0 T ty _ i 8 ht hi _ a.len xs ho
      simpa [NL.len] using this
    · rw [NL.app_nil]
      exact ⟨xs, ho, hD, hx⟩
  · obtain ⟨ad, rfl⟩ : ∃ ad, A = some ad := by
      cases A with
      | none => exact absurd rfl hN
      | some ad => exact ⟨ad, rfl⟩
    have hnews : ∀ j u, ys[j]? = some u → w.cell? (ad.add j) = some u := by
      intro j u hu
      cases b with
      | nil => rw [show ys = [] from hy] at hu; simp at hu
      | cons =>
        obtain ⟨g, o, _, _, _, _, e, _⟩ := hb
        injection e with e
        subst e
        rw [show (⟨g, o, none⟩ : Addr).add j = ⟨g, o + j, none⟩ from by unfold Addr.add; split <;> simp_all]
        exact hcell g o rfl j u hu
    obtain ⟨V', w', hr, h2, h3, _, h5⟩ := run_append_own_at (P := P) w 0 T ty _ i z 8 112 ht hi hz hsize hby hzs (by decide) V a.len xs ho ad b.len c ys (nrow_len b ys hy) hnews (nrow_one b ys hy) (by unfold maxLen; omega) (by omega) (Nat.zero_le _)
    obtain ⟨A', c', rfl⟩ := own_form h2
    exact ⟨A', c', w', hr, OwnN.joined ho hD hn hx hy h2 h3 h5, h3, h5⟩
theorem RpN.sn {w : World} {D D' : Nat → Prop} {V : Value} {b : NL} {A : Option Addr} (h : RpN w (fun k => D' k ∧ k < w.heap.size) b A) (hB : ∀ k, D' k → k < w.heap.size → D k) (hV : ∀ g, V.ownBlock = some g → ¬ D' g) : RpN w (SN w D V) b A :=
  h.keep (fun _ _ => rfl) (fun k hk => ⟨hB k hk.1 hk.2, hk.2, fun e => hV k e hk.1⟩)

/-- The parser: its block, its words, how many of them the row can hold, where the errors lie. -/
structure PCtx where
  P : Nat
  A : Option Addr
  c : Nat
  l : List Tok
  ea : Nat → Addr
/-- The words lie below the parser. -/
def TksAt (w : World) (X : PCtx) : Prop := ∀ (j : Nat) (t : Tok), X.l[j]? = some t → ∃ (g : Nat) (sa : Option Addr) (sc : Nat), X.A = some ⟨g, 0, none⟩ ∧ g < X.P ∧ TkIn w g (7 * j) t sa sc
/-- What is amiss, in memory. -/
def ErrV (w : World) (X : PCtx) (ev : Value) : Option (Option Int) → Prop
  | none => ev = .nilIface
  | some none => ev = .iface 270 (.pointer (some (X.ea 112)))
  | some (some line) => ∃ A, X.P < A ∧ ev = .iface 70 (.pointer (some ⟨A, 0, none⟩)) ∧ w.heap[A]? = some (.cells #[.int .i64 line, .iface 270 (.pointer (some (X.ea 111)))] 73 (0, 0))
def PsAt (w : World) (X : PCtx) (pos : Nat) (deep : Int) (ev : Value) : Prop := w.heap[X.P]? = some (.cells #[.slice X.A X.l.length X.c, .int .i64 pos, .int .i64 deep, ev] 65 (0, 0))
structure PSt (w : World) (X : PCtx) (p : PS) : Prop where
  st : ∃ ev, PsAt w X p.pos p.deep ev ∧ ErrV w X ev p.err
  tk : TksAt w X
  er : ErrsAt w X.ea
  room : 24 < X.P
  pos : p.pos ≤ X.l.length
  len : X.l.length ≤ 1000000

section
variable {w w' : World} {X : PCtx} {p : PS}
theorem heap_lt {w : World} {g : Nat} {o : Obj} (h : w.heap[g]? = some o) : g < w.heap.size := by
  rcases Nat.lt_or_ge g w.heap.size with hlt | hge
  · exact hlt
  · rw [Array.getElem?_eq_none hge] at h; cases h
theorem PSt.lt (h : PSt w X p) : X.P < w.heap.size := by obtain ⟨ev, h, _⟩ := h.st; exact heap_lt h
/-- Kept, where all below the parser, its own block and what is amiss are as they were. -/
theorem PSt.keep (h : PSt w X p) (hw : ∀ b, b ≤ X.P → w'.heap[b]? = w.heap[b]?) (hA : ∀ (A : Nat) (line : Int), X.P < A → w.heap[A]? = some (.cells #[.int .i64 line, .iface 270 (.pointer (some (X.ea 111)))] 73 (0, 0)) → w'.heap[A]? = w.heap[A]?) (hz : w.heap.size ≤ w'.heap.size) : PSt w' X p := by
  obtain ⟨ev, h1, h2⟩ := h.st
  refine ⟨⟨ev, (hw _ (Nat.le_refl _)).trans h1, ?_⟩, fun j t hj => ?_, h.er.keep (fun b hb => hw b (by have := h.room; omega)) hz, h.room, h.pos, h.len⟩
  · revert h2
    cases p.err with
    | none => exact fun h => h
    | some e =>
      cases e with
      | none => exact fun h => h
      | some line => exact fun ⟨A, hA1, hA2, hA3⟩ => ⟨A, hA1, hA2, (hA A line hA1 hA3).trans hA3⟩
  · obtain ⟨g, sa, sc, e1, e2, e3⟩ := h.tk j t hj
    have hk : ∀ k, w'.cell? ⟨g, k, none⟩ = w.cell? ⟨g, k, none⟩ := fun k => World.cell?_of_block (w := w) (hw g (Nat.le_of_lt e2))
    exact ⟨g, sa, sc, e1, e2, ⟨(hk _).trans e3.c0, (hk _).trans e3.c1, (hk _).trans e3.c2, (hk _).trans e3.c3, (hk _).trans e3.c4, (hk _).trans e3.c5, (hk _).trans e3.c6⟩⟩
theorem PSt.below (h : PSt w X p) (hb : Below w.heap.size w w') : PSt w' X p := h.keep (fun b hb' => hb.block b (by have := h.lt; omega)) (fun A line _ hA => hb.block A (heap_lt hA)) hb.size
/-- An append to a row of nodes leaves the parser as it was. -/
theorem PSt.app {D : Nat → Prop} {V : Value} {l : NL} (h : PSt w X p) (ho : OwnN w D V l) (hP : ∀ k, D k → X.P < k) (hg : w.grownBy w' V.ownBlock) : PSt w' X p := by
  refine h.keep (fun b hb' => hg.block b (by have := h.lt; omega) (fun e => by have := hP b (ho.ge b e.symm).1; omega)) (fun A line _ hA => hg.block A (heap_lt hA) (fun e => ?_)) hg.size
  obtain ⟨xs, ho, _⟩ := ho
  rcases ho.2 with ⟨rfl, _⟩ | ⟨g, cap, cur, rfl, _, hh, _⟩
  · cases e
  · have e : A = g := by simpa [Value.ownBlock] using e
    subst e
    rw [hA] at hh
    injection hh with hh
    injection hh with _ hh _
    exact absurd hh (by decide)
end
/-- How a step of the parser's leaves the world. -/
structure Mvd (w w' : World) (X : PCtx) (p : PS) : Prop where
  st : PSt w' X p
  grown : w.grownBy w' (some X.P)
theorem Mvd.of {w : World} {X : PCtx} {p : PS} (h : PSt w X p) : Mvd w w X p := ⟨h, only_refl _ _⟩
theorem Mvd.trans {a b c : World} {X : PCtx} {p q : PS} (h : Mvd a b X p) (g : Mvd b c X q) : Mvd a c X q := ⟨g.st, only_trans h.grown g.grown⟩
theorem Mvd.below {a b c : World} {X : PCtx} {p : PS} (h : Mvd a b X p) (g : Below b.heap.size b c) : Mvd a c X p := ⟨h.st.below g, only_trans h.grown (only_below g _)⟩
theorem Mvd.drew {a b : World} {X : PCtx} {p : PS} (h : Mvd a b X p) : Mvd a b.drew X p := h.below (Below.drew (Below.refl _ _))
theorem Mvd.alloc {a b : World} {X : PCtx} {p : PS} (h : Mvd a b X p) (o : Obj) : Mvd a (b.alloc o) X p := h.below ((Below.refl _ _).alloc (Nat.le_refl _) o)
theorem Mvd.app {a w w' : World} {X : PCtx} {p : PS} {D : Nat → Prop} {V : Value} {l : NL} (h : Mvd a w X p) (ho : OwnN w D V l) (hP : ∀ k, D k → X.P < k) (hb : ∀ k, D k → a.heap.size ≤ k) (hg : w.grownBy w' V.ownBlock) : Mvd a w' X p :=
  ⟨h.st.app ho hP hg, ⟨hg.os.trans h.grown.os, hg.tape.trans h.grown.tape, hg.output.trans h.grown.output, Nat.le_trans h.grown.size hg.size, fun k hk hne => (hg.block k (Nat.lt_of_lt_of_le hk h.grown.size) (fun e => by have := hb k (ho.ge k e.symm).1; omega)).trans (h.grown.block k hk hne)⟩⟩
end Go.Proofs.YtggngahmafbihaaGreatDoor
namespace Go.Proofs.YtggngahmafbihaaGreatDoor
open Go.RowKit Go.Lib
set_option linter.unusedVariables false

section
variable {w w' : World} {X : PCtx} {pos : Nat} {deep : Int} {ev : Value}
theorem PsAt.c0 (h : PsAt w X pos deep ev) : w.cell? ⟨X.P, 0, none⟩ = some (.slice X.A X.l.length X.c) := cell_of_row w X.P 0 _ _ _ h
theorem PsAt.c1 (h : PsAt w X pos deep ev) : w.cell? ⟨X.P, 1, none⟩ = some (.int .i64 pos) := cell_of_row w X.P 1 _ _ _ h
theorem PsAt.c2 (h : PsAt w X pos deep ev) : w.cell? ⟨X.P, 2, none⟩ = some (.int .i64 deep) := cell_of_row w X.P 2 _ _ _ h
theorem PsAt.c3 (h : PsAt w X pos deep ev) : w.cell? ⟨X.P, 3, none⟩ = some ev := cell_of_row w X.P 3 _ _ _ h
theorem PsAt.fr (h : PsAt w X pos deep ev) (k : Nat) : w.frozen? ⟨X.P, k, none⟩ = false := by unfold PsAt at h; simp [World.frozen?, h]
theorem PsAt.set1 (h : PsAt w X pos deep ev) (j : Nat) : PsAt (w.setCell ⟨X.P, 1, none⟩ (.int .i64 j)) X j deep ev := by
  unfold PsAt at h ⊢; simp [World.setCell, Array.getElem?_modify, h]
theorem PsAt.set2 (h : PsAt w X pos deep ev) (j : Int) : PsAt (w.setCell ⟨X.P, 2, none⟩ (.int .i64 j)) X pos j ev := by
  unfold PsAt at h ⊢; simp [World.setCell, Array.getElem?_modify, h]
theorem PsAt.set3 (h : PsAt w X pos deep ev) (u : Value) : PsAt (w.setCell ⟨X.P, 3, none⟩ u) X pos deep u := by
  unfold PsAt at h ⊢; simp [World.setCell, Array.getElem?_modify, h]
end
/-- The parser's own block, opened. -/
theorem PSt.at_ {w : World} {X : PCtx} {p : PS} (h : PSt w X p) : ∃ ev, PsAt w X p.pos p.deep ev ∧ ErrV w X ev p.err := h.st
theorem PSt.tok {w : World} {X : PCtx} {p : PS} (h : PSt w X p) {j : Nat} {t : Tok} (hj : X.l[j]? = some t) : ∃ (g : Nat) (sa : Option Addr) (sc : Nat), X.A = some ⟨g, 0, none⟩ ∧ g < X.P ∧
    w.cell? ⟨g, j * 7, none⟩ = some (.int .i64 t.kind) ∧ w.cell? ⟨g, j * 7 + 1, none⟩ = some (.int .i64 t.line) ∧ w.cell? ⟨g, j * 7 + 2, none⟩ = some (.string t.s) ∧ w.cell? ⟨g, j * 7 + 3, none⟩ = some (.int .i64 t.k) ∧
    w.cell? ⟨g, j * 7 + 4, none⟩ = some (.int .i64 t.n) ∧ w.cell? ⟨g, j * 7 + 5, none⟩ = some (.string t.t) ∧ w.cell? ⟨g, j * 7 + 6, none⟩ = some (.slice sa 0 sc) := by
  obtain ⟨g, sa, sc, e1, e2, e3⟩ := h.tk j t hj
  have := e3.c0; have := e3.c1; have := e3.c2; have := e3.c3; have := e3.c4; have := e3.c5; have := e3.c6
  rw [Nat.mul_comm j 7]
  exact ⟨g, sa, sc, e1, e2, by assumption, by assumption, by assumption, by assumption, by assumption, by assumption, by assumption⟩
theorem errv_some {w : World} {X : PCtx} {ev : Value} {x : Option Int} (h : ErrV w X ev (some x)) : ∃ t v, ev = .iface t v := by
  cases x with
  | none => exact ⟨_, _, h⟩
  | some line => obtain ⟨A, _, h, _⟩ := h; exact ⟨_, _, h⟩
theorem tok_at {l : List Tok} {i : Nat} (h : i < l.length) : ∃ t, l[i]? = some t := ⟨l[i], List.getElem?_eq_getElem h⟩
theorem isS_eq {l : List Tok} {p : PS} {t : Tok} {s : List UInt8} (he : p.err = none) (h : l[p.pos]? = some t) : isS l p s = ((t.kind == 4 || t.kind == 2) && t.s.data.toList == s) := by
  unfold isS; rw [he, h]; rfl
theorem isS_out {l : List Tok} {p : PS} {s : List UInt8} (h : l[p.pos]? = none) : isS l p s = false := by
  unfold isS; rw [h]; exact Bool.and_false _
theorem isS_bad {l : List Tok} {p : PS} {s : List UInt8} {e : Option Int} (h : p.err = some e) : isS l p s = false := by
  unfold isS; rw [h]; rfl
theorem isS_lt {l : List Tok} {p : PS} {s : List UInt8} (h : isS l p s = true) : p.pos < l.length := by
  rcases Nat.lt_or_ge p.pos l.length with hlt | hge
  · exact hlt
  · rw [isS_out (List.getElem?_eq_none hge)] at h; cases h
set_option maxRecDepth 100000 in
set_option maxHeartbeats 1000000 in
theorem is_c (X : PCtx) (p : PS) (s : ByteArray) (w : World) (h : PSt w X p) :
    Calls Tryz.prog 57 #[.pointer (some ⟨X.P, 0, none⟩), .string s] w fun e w' => e = .returned (.bool (isS X.l p s.data.toList)) ∧ Below w.heap.size w w' := by
  obtain ⟨ev, hP, hE⟩ := h.at_
  have c0 := hP.c0; have c1 := hP.c1; have c3 := hP.c3
  cases he : p.err with
  | some x =>
    rw [he] at hE
    obtain ⟨t, v, rfl⟩ := errv_some hE
    have HI := Lib.hid (isS_bad (l := X.l) (s := s.data.toList) he)
    clear h hP hE he
    go_enter Tryz.func57, Tryz.ntmps57
    go_wp2_with fail
    go_quiet (fail)
    go_wp2_with fail
    go_ret
    exact ⟨ret_bool HI.out.symm, rfl, rfl, rfl, Nat.le_refl _, fun _ _ => rfl⟩
  | none =>
    rw [he] at hE
    obtain rfl : ev = .nilIface := hE
    by_cases hp : p.pos < X.l.length
    · obtain ⟨t, ht⟩ := tok_at hp
      obtain ⟨g, sa, sc, hA, hg, t0, t1, t2, t3, t4, t5, t6⟩ := h.tok ht
      have b0 : (0 : Int) ≤ (p.pos : Int) := by omega
      have b1 : (p.pos : Int) < (X.l.length : Int) := by omega
      have b2 : ¬ (X.l.length : Int) ≤ (p.pos : Int) := by omega
      have HI := Lib.hid (isS_eq (s := s.data.toList) he ht)
      rw [hA] at c0
      obtain ⟨n, hn⟩ : ∃ n, n = X.l.length := ⟨_, rfl⟩
      obtain ⟨q, hq⟩ : ∃ q, q = p.pos := ⟨_, rfl⟩
      rw [← hn] at c0 b1 b2
      rw [← hq] at c1 b0 b1 b2 t0 t1 t2 t3 t4 t5 t6
      clear h hP he ht hp hn hq
      obtain ⟨kd, hkd⟩ : ∃ kd, kd = t.kind := ⟨_, rfl⟩
      rw [← hkd] at HI t0
      clear hkd
      by_cases k4 : kd = 4
      · subst k4
        go_enter Tryz.func57, Tryz.ntmps57
        go_wp2_with fail
        go_quiet (fail)
        go_wp2_with fail
        generalize hwq : World.drewN _ _ = wq
        have q0 : wq.cell? ⟨X.P, 0, none⟩ = some (.slice (some ⟨g, 0, none⟩) n X.c) := by rw [← hwq]; exact c0
        have q1 : wq.cell? ⟨X.P, 1, none⟩ = some (.int .i64 q) := by rw [← hwq]; exact c1
        have r0 : wq.cell? ⟨g, q * 7, none⟩ = some (.int .i64 4) := by rw [← hwq]; exact t0
        have r1 : wq.cell? ⟨g, q * 7 + 1, none⟩ = some (.int .i64 t.line) := by rw [← hwq]; exact t1
        have r2 : wq.cell? ⟨g, q * 7 + 2, none⟩ = some (.string t.s) := by rw [← hwq]; exact t2
        have r3 : wq.cell? ⟨g, q * 7 + 3, none⟩ = some (.int .i64 t.k) := by rw [← hwq]; exact t3
        have r4 : wq.cell? ⟨g, q * 7 + 4, none⟩ = some (.int .i64 t.n) := by rw [← hwq]; exact t4
        have r5 : wq.cell? ⟨g, q * 7 + 5, none⟩ = some (.string t.t) := by rw [← hwq]; exact t5
        have r6 : wq.cell? ⟨g, q * 7 + 6, none⟩ = some (.slice sa 0 sc) := by rw [← hwq]; exact t6
        have HQ := Lib.hid (show Below w.heap.size w wq by rw [← hwq]; exact ⟨rfl, rfl, rfl, Nat.le_refl _, fun _ _ => rfl⟩)
        clear hwq c0 c1 c3 t0 t1 t2 t3 t4 t5 t6
        go_region_held3 (fun W => W.cell? ⟨X.P, 0, none⟩ = some (.slice (some ⟨g, 0, none⟩) n X.c) ∧ W.cell? ⟨X.P, 1, none⟩ = some (.int .i64 q) ∧ W.cell? ⟨g, q * 7, none⟩ = some (.int .i64 4) ∧ W.cell? ⟨g, q * 7 + 1, none⟩ = some (.int .i64 t.line) ∧ W.cell? ⟨g, q * 7 + 2, none⟩ = some (.string t.s) ∧ W.cell? ⟨g, q * 7 + 3, none⟩ = some (.int .i64 t.k) ∧ W.cell? ⟨g, q * 7 + 4, none⟩ = some (.int .i64 t.n) ∧ W.cell? ⟨g, q * 7 + 5, none⟩ = some (.string t.t) ∧ W.cell? ⟨g, q * 7 + 6, none⟩ = some (.slice sa 0 sc)) (first | assumption | exact ⟨q0, q1, r0, r1, r2, r3, r4, r5, r6⟩ | go_keep) (fail)
        go_wp2_with fail
        go_ret
        exact ⟨ret_bool (by rw [HI.out, Lib.toList_data, Lib.toList_data]; rfl), (HQ.out.alloc HQ.out.size _).drew⟩
      by_cases k2 : kd = 2
      · subst k2
        clear k4
        go_enter Tryz.func57, Tryz.ntmps57
        go_wp2_with fail
        go_quiet (fail)
        go_wp2_with fail
        generalize hwq : World.drewN _ _ = wq
        have q0 : wq.cell? ⟨X.P, 0, none⟩ = some (.slice (some ⟨g, 0, none⟩) n X.c) := by rw [← hwq]; exact c0
        have q1 : wq.cell? ⟨X.P, 1, none⟩ = some (.int .i64 q) := by rw [← hwq]; exact c1
        have r0 : wq.cell? ⟨g, q * 7, none⟩ = some (.int .i64 2) := by rw [← hwq]; exact t0
        have r1 : wq.cell? ⟨g, q * 7 + 1, none⟩ = some (.int .i64 t.line) := by rw [← hwq]; exact t1
        have r2 : wq.cell? ⟨g, q * 7 + 2, none⟩ = some (.string t.s) := by rw [← hwq]; exact t2
        have r3 : wq.cell? ⟨g, q * 7 + 3, none⟩ = some (.int .i64 t.k) := by rw [← hwq]; exact t3
        have r4 : wq.cell? ⟨g, q * 7 + 4, none⟩ = some (.int .i64 t.n) := by rw [← hwq]; exact t4
        have r5 : wq.cell? ⟨g, q * 7 + 5, none⟩ = some (.string t.t) := by rw [← hwq]; exact t5
        have r6 : wq.cell? ⟨g, q * 7 + 6, none⟩ = some (.slice sa 0 sc) := by rw [← hwq]; exact t6
        have HQ := Lib.hid (show Below w.heap.size w wq by rw [← hwq]; exact ⟨rfl, rfl, rfl, Nat.le_refl _, fun _ _ => rfl⟩)
        clear hwq c0 c1 c3 t0 t1 t2 t3 t4 t5 t6
        go_region_held3 (fun W => W.cell? ⟨X.P, 0, none⟩ = some (.slice (some ⟨g, 0, none⟩) n X.c) ∧ W.cell? ⟨X.P, 1, none⟩ = some (.int .i64 q) ∧ W.cell? ⟨g, q * 7, none⟩ = some (.int .i64 2) ∧ W.cell? ⟨g, q * 7 + 1, none⟩ = some (.int .i64 t.line) ∧ W.cell? ⟨g, q * 7 + 2, none⟩ = some (.string t.s) ∧ W.cell? ⟨g, q * 7 + 3, none⟩ = some (.int .i64 t.k) ∧ W.cell? ⟨g, q * 7 + 4, none⟩ = some (.int .i64 t.n) ∧ W.cell? ⟨g, q * 7 + 5, none⟩ = some (.string t.t) ∧ W.cell? ⟨g, q * 7 + 6, none⟩ = some (.slice sa 0 sc)) (first | assumption | exact ⟨q0, q1, r0, r1, r2, r3, r4, r5, r6⟩ | go_keep) (fail)
        go_wp2_with fail
        go_ret
        exact ⟨ret_bool (by rw [HI.out, Lib.toList_data, Lib.toList_data]; rfl), (HQ.out.alloc HQ.out.size _).drew⟩
      · have n4 : (kd == 4) = false := beq_eq_false_iff_ne.2 k4
        have n2 : (kd == 2) = false := beq_eq_false_iff_ne.2 k2
        rw [n4, n2] at HI
        clear k4 k2
        go_enter Tryz.func57, Tryz.ntmps57
        go_wp2_with fail
        go_quiet (fail)
        go_wp2_with fail
        generalize hwq : World.drewN _ _ = wq
        have q0 : wq.cell? ⟨X.P, 0, none⟩ = some (.slice (some ⟨g, 0, none⟩) n X.c) := by rw [← hwq]; exact c0
        have q1 : wq.cell? ⟨X.P, 1, none⟩ = some (.int .i64 q) := by rw [← hwq]; exact c1
        have r0 : wq.cell? ⟨g, q * 7, none⟩ = some (.int .i64 kd) := by rw [← hwq]; exact t0
        have r1 : wq.cell? ⟨g, q * 7 + 1, none⟩ = some (.int .i64 t.line) := by rw [← hwq]; exact t1
        have r2 : wq.cell? ⟨g, q * 7 + 2, none⟩ = some (.string t.s) := by rw [← hwq]; exact t2
        have r3 : wq.cell? ⟨g, q * 7 + 3, none⟩ = some (.int .i64 t.k) := by rw [← hwq]; exact t3
        have r4 : wq.cell? ⟨g, q * 7 + 4, none⟩ = some (.int .i64 t.n) := by rw [← hwq]; exact t4
        have r5 : wq.cell? ⟨g, q * 7 + 5, none⟩ = some (.string t.t) := by rw [← hwq]; exact t5
        have r6 : wq.cell? ⟨g, q * 7 + 6, none⟩ = some (.slice sa 0 sc) := by rw [← hwq]; exact t6
        have HQ := Lib.hid (show Below w.heap.size w wq by rw [← hwq]; exact ⟨rfl, rfl, rfl, Nat.le_refl _, fun _ _ => rfl⟩)
        clear hwq c0 c1 c3 t0 t1 t2 t3 t4 t5 t6
        go_region_held3 (fun W => W.cell? ⟨X.P, 0, none⟩ = some (.slice (some ⟨g, 0, none⟩) n X.c) ∧ W.cell? ⟨X.P, 1, none⟩ = some (.int .i64 q) ∧ W.cell? ⟨g, q * 7, none⟩ = some (.int .i64 kd) ∧ W.cell? ⟨g, q * 7 + 1, none⟩ = some (.int .i64 t.line) ∧ W.cell? ⟨g, q * 7 + 2, none⟩ = some (.string t.s) ∧ W.cell? ⟨g, q * 7 + 3, none⟩ = some (.int .i64 t.k) ∧ W.cell? ⟨g, q * 7 + 4, none⟩ = some (.int .i64 t.n) ∧ W.cell? ⟨g, q * 7 + 5, none⟩ = some (.string t.t) ∧ W.cell? ⟨g, q * 7 + 6, none⟩ = some (.slice sa 0 sc)) (first | assumption | exact ⟨q0, q1, r0, r1, r2, r3, r4, r5, r6⟩ | go_keep) (fail)
        go_wp2_with fail
        go_ret
        exact ⟨ret_bool HI.out.symm, (HQ.out.alloc HQ.out.size _).drew⟩
    · have hout : X.l[p.pos]? = none := List.getElem?_eq_none (by omega)
      have HI := Lib.hid (isS_out (s := s.data.toList) hout)
      have b2 : (X.l.length : Int) ≤ (p.pos : Int) := by omega
      clear h hP he hp hout
      go_enter Tryz.func57, Tryz.ntmps57
      go_wp2_with fail
      go_quiet (fail)
      go_wp2_with fail
      go_ret
      exact ⟨ret_bool HI.out.symm, rfl, rfl, rfl, Nat.le_refl _, fun _ _ => rfl⟩

theorem ErrV.keep {w w' : World} {X : PCtx} {ev : Value} {x : Option (Option Int)} (h : ErrV w X ev x) (hw : ∀ b, X.P < b → b < w.heap.size → w'.heap[b]? = w.heap[b]?) : ErrV w' X ev x := by
  cases x with
  | none => exact h
  | some e =>
    cases e with
    | none => exact h
    | some line => obtain ⟨A, h1, h2, h3⟩ := h; exact ⟨A, h1, h2, (hw A h1 (heap_lt h3)).trans h3⟩
/-- The parser elsewhere, all below it being as it was. -/
theorem PSt.moved {w w' : World} {X : PCtx} {p q : PS} {ev : Value} (h : PSt w X p) (hw : ∀ b, b < X.P → w'.heap[b]? = w.heap[b]?) (hz : w.heap.size ≤ w'.heap.size) (hP : PsAt w' X q.pos q.deep ev) (hE : ErrV w' X ev q.err) (hpos : q.pos ≤ X.l.length) : PSt w' X q :=
  ⟨⟨ev, hP, hE⟩, fun j t hj => by
    obtain ⟨g, sa, sc, e1, e2, e3⟩ := h.tk j t hj
    have hk : ∀ k, w'.cell? ⟨g, k, none⟩ = w.cell? ⟨g, k, none⟩ := fun k => World.cell?_of_block (w := w) (hw g e2)
    exact ⟨g, sa, sc, e1, e2, ⟨(hk _).trans e3.c0, (hk _).trans e3.c1, (hk _).trans e3.c2, (hk _).trans e3.c3, (hk _).trans e3.c4, (hk _).trans e3.c5, (hk _).trans e3.c6⟩⟩,
   h.er.keep (fun b hb => hw b (by have := h.room; omega)) hz, h.room, hpos, h.len⟩
theorem size_set (w : World) (a : Addr) (v : Value) : (w.setCell a v).heap.size = w.heap.size := by simp [World.setCell]
theorem Mvd.next {a w : World} {X : PCtx} {p : PS} (h : Mvd a w X p) (hp : p.pos < X.l.length) : Mvd a (w.setCell ⟨X.P, 1, none⟩ (.int .i64 (p.pos + 1 : Nat))) X (nextS p) := by
  obtain ⟨ev, hP, hE⟩ := h.st.at_
  refine ⟨h.st.moved (fun b hb => Below.heap_setCell _ _ _ _ (by show b ≠ X.P; omega)) (by rw [size_set]; exact Nat.le_refl _) (hP.set1 (p.pos + 1)) (hE.keep (fun b hb _ => Below.heap_setCell _ _ _ _ (by show b ≠ X.P; omega))) hp, only_setCell h.grown (.inl rfl) _⟩
theorem Mvd.dive {a w : World} {X : PCtx} {p : PS} (h : Mvd a w X p) (d : Int) : Mvd a (w.setCell ⟨X.P, 2, none⟩ (.int .i64 d)) X { p with deep := d } := by
  obtain ⟨ev, hP, hE⟩ := h.st.at_
  refine ⟨h.st.moved (fun b hb => Below.heap_setCell _ _ _ _ (by show b ≠ X.P; omega)) (by rw [size_set]; exact Nat.le_refl _) (hP.set2 d) (hE.keep (fun b hb _ => Below.heap_setCell _ _ _ _ (by show b ≠ X.P; omega))) h.st.pos, only_setCell h.grown (.inl rfl) _⟩
theorem Mvd.deepErr {a w : World} {X : PCtx} {p : PS} (h : Mvd a w X p) : Mvd a (w.setCell ⟨X.P, 3, none⟩ (.iface 270 (.pointer (some (X.ea 112))))) X { p with err := some none } := by
  obtain ⟨ev, hP, hE⟩ := h.st.at_
  exact ⟨h.st.moved (fun b hb => Below.heap_setCell _ _ _ _ (by show b ≠ X.P; omega)) (by rw [size_set]; exact Nat.le_refl _) (hP.set3 _) rfl h.st.pos, only_setCell h.grown (.inl rfl) _⟩
theorem Mvd.lineErr {a w : World} {X : PCtx} {p : PS} (h : Mvd a w X p) (line : Int) :
    Mvd a ((w.alloc (.cells #[.int .i64 line, .iface 270 (.pointer (some (X.ea 111)))] 73)).setCell ⟨X.P, 3, none⟩ (.iface 70 (.pointer (some ⟨w.heap.size, 0, none⟩)))) X { p with err := some (some line) } := by
  have hlt := h.st.lt
  have h2 := h.alloc (.cells #[.int .i64 line, .iface 270 (.pointer (some (X.ea 111)))] 73)
  obtain ⟨ev, hP, hE⟩ := h2.st.at_
  refine ⟨h2.st.moved (fun b hb => Below.heap_setCell _ _ _ _ (by show b ≠ X.P; omega)) (by rw [size_set]; exact Nat.le_refl _) (hP.set3 _) ⟨w.heap.size, hlt, rfl, ?_⟩ h.st.pos, only_setCell h2.grown (.inl rfl) _⟩
  rw [Below.heap_setCell _ _ _ _ (by show w.heap.size ≠ X.P; omega)]
  exact heap_alloc_new w _

set_option maxRecDepth 100000 in
set_option maxHeartbeats 1000000 in
theorem may_c (X : PCtx) (p : PS) (s : ByteArray) (w : World) (h : PSt w X p) :
    Calls Tryz.prog 65 #[.pointer (some ⟨X.P, 0, none⟩), .string s] w fun e w' => e = .returned (.bool (isS X.l p s.data.toList)) ∧ Mvd w w' X (if isS X.l p s.data.toList then nextS p else p) := by
  have IC := Lib.hid (is_c X p s w h)
  have HM := Lib.hid (Mvd.of h)
  have hlen := h.len
  have HLT := Lib.hid (isS_lt (l := X.l) (p := p) (s := s.data.toList))
  obtain ⟨b, hb⟩ : ∃ b, b = isS X.l p s.data.toList := ⟨_, rfl⟩
  rw [← hb] at IC HLT ⊢
  clear hb h
  cases b with
  | false =>
    go_enter Tryz.func65, Tryz.ntmps65
    go_wp2_with fail
    refine IC.out.mono ?_
    rintro e w1 ⟨rfl, hb1⟩
    have HM1 := Lib.hid (HM.out.below hb1)
    clear hb1
    go_wp2_with fail
    go_ret
    exact ⟨rfl, HM1.out⟩
  | true =>
    have hlt := HLT.out rfl
    go_enter Tryz.func65, Tryz.ntmps65
    go_wp2_with fail
    refine IC.out.mono ?_
    rintro e w1 ⟨rfl, hb1⟩
    have hm1 := HM.out.below hb1
    obtain ⟨ev, hP, hE⟩ := hm1.st.at_
    have c1 := hP.c1
    have f1 := hP.fr 1
    have HM1 := Lib.hid hm1
    clear hb1 hm1 hP hE
    go_wp2_with fail
    go_ret
    exact ⟨rfl, HM1.out.next hlt⟩
end Go.Proofs.YtggngahmafbihaaGreatDoor
namespace Go.Proofs.YtggngahmafbihaaGreatDoor
open Go.RowKit Go.Lib
set_option linter.unusedVariables false

theorem lineS_at {l : List Tok} {p : PS} {t : Tok} (h : l[p.pos]? = some t) : lineS l p = t.line := by unfold lineS; rw [h]
theorem lineS_last {l : List Tok} {p : PS} {t : Tok} (h : l[p.pos]? = none) (hl : l[l.length - 1]? = some t) : lineS l p = t.line := by unfold lineS; rw [h, List.getLast?_eq_getElem?, hl]
theorem lineS_none {l : List Tok} {p : PS} (h : l.length = 0) : lineS l p = 1 := by
  have : l = [] := List.eq_nil_of_length_eq_zero h
  subst this; rfl

set_option maxRecDepth 100000 in
set_option maxHeartbeats 1000000 in
theorem line_pc (X : PCtx) (p : PS) (w : World) (h : PSt w X p) :
    Calls Tryz.prog 64 #[.pointer (some ⟨X.P, 0, none⟩)] w fun e w' => e = .returned (.int .i64 (lineS X.l p)) ∧ Below w.heap.size w w' := by
  obtain ⟨ev, hP, hE⟩ := h.at_
  have c0 := hP.c0; have c1 := hP.c1
  by_cases hp : p.pos < X.l.length
  · obtain ⟨t, ht⟩ := tok_at hp
    obtain ⟨g, sa, sc, hA, hg, t0, t1, t2, t3, t4, t5, t6⟩ := h.tok ht
    have b0 : (0 : Int) ≤ (p.pos : Int) := by omega
    have b1 : (p.pos : Int) < (X.l.length : Int) := by omega
    have HI := Lib.hid (lineS_at ht)
    rw [hA] at c0
    obtain ⟨n, hn⟩ : ∃ n, n = X.l.length := ⟨_, rfl⟩
    obtain ⟨q, hq⟩ : ∃ q, q = p.pos := ⟨_, rfl⟩
    rw [← hn] at c0 b1
    rw [← hq] at c1 b0 b1 t1
    clear h hP hE ht hp hn hq t0 t2 t3 t4 t5 t6
    go_enter Tryz.func64, Tryz.ntmps64
    go_wp2_with fail
    go_quiet (fail)
    go_wp2_with fail
    go_quiet (fail)
    go_wp2_with fail
    go_ret
    exact ⟨ret_int HI.out.symm, rfl, rfl, rfl, Nat.le_refl _, fun _ _ => rfl⟩
  · have hout : X.l[p.pos]? = none := List.getElem?_eq_none (by omega)
    have b2 : ¬ (p.pos : Int) < (X.l.length : Int) := by omega
    by_cases hz : X.l.length = 0
    · have HI := Lib.hid (lineS_none (p := p) hz)
      rw [hz] at c0 b2
      clear h hP hE hp hout hz
      go_enter Tryz.func64, Tryz.ntmps64
      go_wp2_with fail
      go_quiet (fail)
      go_wp2_with fail
      go_ret
      exact ⟨ret_int HI.out.symm, rfl, rfl, rfl, Nat.le_refl _, fun _ _ => rfl⟩
    · obtain ⟨n, hn⟩ : ∃ n, X.l.length = n + 1 := ⟨X.l.length - 1, by omega⟩
      obtain ⟨t, ht⟩ := tok_at (l := X.l) (i := X.l.length - 1) (by omega)
      have HI := Lib.hid (lineS_last hout ht)
      rw [show X.l.length - 1 = n by omega] at ht
      obtain ⟨g, sa, sc, hA, hg, t0, t1, t2, t3, t4, t5, t6⟩ := h.tok ht
      rw [hA] at c0
      rw [hn] at c0 b2
      have b3 : (0 : Int) < ((n + 1 : Nat) : Int) := by omega
      have b0 : (0 : Int) ≤ (n : Int) := by omega
      have b1 : (n : Int) < ((n + 1 : Nat) : Int) := by omega
      have b4 : IntKind.i64.wrap (((n + 1 : Nat) : Int) - 1) = (n : Int) := by
        have := h.len
        rw [show (((n + 1 : Nat) : Int) - 1) = (n : Int) by omega]
        exact IntWalk.i64_in _ ⟨by omega, by omega⟩
      obtain ⟨m, hm⟩ : ∃ m, m = n + 1 := ⟨_, rfl⟩
      rw [← hm] at c0 b2 b3 b1 b4
      clear h hP hE hp hout hz ht hn hm t0 t2 t3 t4 t5 t6
      go_enter Tryz.func64, Tryz.ntmps64
      go_wp2_with fail
      go_quiet (fail)
      go_wp2_with fail
      go_quiet (fail)
      go_wp2_with fail
      go_ret
      exact ⟨ret_int HI.out.symm, rfl, rfl, rfl, Nat.le_refl _, fun _ _ => rfl⟩

theorem failS_none {l : List Tok} {p : PS} (h : p.err = none) : failS l p = { p with err := some (some (lineS l p)) } := by unfold failS; rw [h]; rfl
theorem failS_some {l : List Tok} {p : PS} {e : Option Int} (h : p.err = some e) : failS l p = p := by unfold failS; rw [h]; rfl
set_option maxRecDepth 100000 in
set_option maxHeartbeats 2000000 in
theorem fail_c (X : PCtx) (p : PS) (w : World) (h : PSt w X p) :
    Calls Tryz.prog 27 #[.pointer (some ⟨X.P, 0, none⟩)] w fun e w' => e = .returned (.tuple #[]) ∧ Mvd w w' X (failS X.l p) := by
  have hpl := h.lt
  have hsyn := h.er.syn
  have HM := Lib.hid (Mvd.of h)
  obtain ⟨ev, hP, hE⟩ := h.at_
  have c0 := hP.c0; have c1 := hP.c1; have c3 := hP.c3; have f3 := hP.fr 3
  cases he : p.err with
  | some x =>
    rw [he] at hE
    obtain ⟨t, v, rfl⟩ := errv_some hE
    rw [failS_some he]
    clear h hP hE he
    go_enter Tryz.func27, Tryz.ntmps27
    go_wp2_with fail
    refine bodyPost_ret (results_none rfl _ _ _) rfl ?_
    exact ⟨rfl, HM.out⟩
  | none =>
    rw [he] at hE
    obtain rfl : ev = .nilIface := hE
    rw [failS_none he]
    by_cases hp : p.pos < X.l.length
    · obtain ⟨t, ht⟩ := tok_at hp
      obtain ⟨g, sa, sc, hA, hg, t0, t1, t2, t3, t4, t5, t6⟩ := h.tok ht
      have b0 : (0 : Int) ≤ (p.pos : Int) := by omega
      have b1 : (p.pos : Int) < (X.l.length : Int) := by omega
      rw [lineS_at ht]
      rw [hA] at c0
      obtain ⟨n, hn⟩ : ∃ n, n = X.l.length := ⟨_, rfl⟩
      obtain ⟨q, hq⟩ : ∃ q, q = p.pos := ⟨_, rfl⟩
      rw [← hn] at c0 b1
      rw [← hq] at c1 b0 b1 t1
      have HPP := Lib.hid hP
      clear h hP ht hp hn hq t0 t2 t3 t4 t5 t6
      go_enter Tryz.func27, Tryz.ntmps27
      go_wp2_with fail
      go_quiet (fail)
      go_wp2_with fail
      go_quiet (fail)
      generalize hwq : World.drewN _ _ = wq
      have hbq : Below w.heap.size w wq := by rw [← hwq]; exact ⟨rfl, rfl, rfl, Nat.le_refl _, fun _ _ => rfl⟩
      have HMQ := Lib.hid (HM.out.below hbq)
      have hPq := (hbq.block _ hpl).trans HPP.out
      have k3 := fun o => (PsAt.c3 ((Below.heap_alloc wq o _ (heap_lt hPq)).trans hPq))
      have g3 := fun o => (PsAt.fr ((Below.heap_alloc wq o _ (heap_lt hPq)).trans hPq) 3)
      have ksyn : wq.cell? ⟨1, 0, none⟩ = some (.iface 270 (.pointer (some (X.ea 111)))) := by rw [← hwq]; exact hsyn
      clear hwq hbq hPq
      go_wp2_with fail
      go_end0
      exact ⟨rfl, HMQ.out.lineErr t.line⟩
    · have hout : X.l[p.pos]? = none := List.getElem?_eq_none (by omega)
      have b2 : ¬ (p.pos : Int) < (X.l.length : Int) := by omega
      by_cases hz : X.l.length = 0
      · rw [lineS_none hz]
        rw [hz] at c0 b2
        have HPP := Lib.hid hP
        clear h hP hp hout hz
        go_enter Tryz.func27, Tryz.ntmps27
        go_wp2_with fail
        go_quiet (fail)
        generalize hwq : World.drewN _ _ = wq
        have hbq : Below w.heap.size w wq := by rw [← hwq]; exact ⟨rfl, rfl, rfl, Nat.le_refl _, fun _ _ => rfl⟩
        have HMQ := Lib.hid (HM.out.below hbq)
        have hPq := (hbq.block _ hpl).trans HPP.out
        have k3 := fun o => (PsAt.c3 ((Below.heap_alloc wq o _ (heap_lt hPq)).trans hPq))
        have g3 := fun o => (PsAt.fr ((Below.heap_alloc wq o _ (heap_lt hPq)).trans hPq) 3)
        have ksyn : wq.cell? ⟨1, 0, none⟩ = some (.iface 270 (.pointer (some (X.ea 111)))) := by rw [← hwq]; exact hsyn
        have kc0 : wq.cell? ⟨X.P, 0, none⟩ = some (.slice X.A 0 X.c) := by rw [← hwq]; exact c0
        clear hwq hbq hPq
        go_wp2_with fail
        go_end0
        exact ⟨rfl, HMQ.out.lineErr 1⟩
      · obtain ⟨n, hn⟩ : ∃ n, X.l.length = n + 1 := ⟨X.l.length - 1, by omega⟩
        obtain ⟨t, ht⟩ := tok_at (l := X.l) (i := X.l.length - 1) (by omega)
        rw [lineS_last hout ht]
        rw [show X.l.length - 1 = n by omega] at ht
        obtain ⟨g, sa, sc, hA, hg, t0, t1, t2, t3, t4, t5, t6⟩ := h.tok ht
        rw [hA] at c0
        rw [hn] at c0 b2
        have b3 : (0 : Int) < ((n + 1 : Nat) : Int) := by omega
        have b0 : (0 : Int) ≤ (n : Int) := by omega
        have b1 : (n : Int) < ((n + 1 : Nat) : Int) := by omega
        have b4 : IntKind.i64.wrap (((n + 1 : Nat) : Int) - 1) = (n : Int) := by
          have := h.len
          rw [show (((n + 1 : Nat) : Int) - 1) = (n : Int) by omega]
          exact IntWalk.i64_in _ ⟨by omega, by omega⟩
        obtain ⟨m, hm⟩ : ∃ m, m = n + 1 := ⟨_, rfl⟩
        rw [← hm] at c0 b2 b3 b1 b4
        have HPP := Lib.hid hP
        clear h hP hp hout hz ht hn hm t0 t2 t3 t4 t5 t6
        go_enter Tryz.func27, Tryz.ntmps27
        go_wp2_with fail
        go_quiet (fail)
        go_wp2_with fail
        go_quiet (fail)
        generalize hwq : World.drewN _ _ = wq
        have hbq : Below w.heap.size w wq := by rw [← hwq]; exact ⟨rfl, rfl, rfl, Nat.le_refl _, fun _ _ => rfl⟩
        have HMQ := Lib.hid (HM.out.below hbq)
        have hPq := (hbq.block _ hpl).trans HPP.out
        have k3 := fun o => (PsAt.c3 ((Below.heap_alloc wq o _ (heap_lt hPq)).trans hPq))
        have g3 := fun o => (PsAt.fr ((Below.heap_alloc wq o _ (heap_lt hPq)).trans hPq) 3)
        have ksyn : wq.cell? ⟨1, 0, none⟩ = some (.iface 270 (.pointer (some (X.ea 111)))) := by rw [← hwq]; exact hsyn
        clear hwq hbq hPq
        go_wp2_with fail
        go_end0
        exact ⟨rfl, HMQ.out.lineErr t.line⟩

set_option maxHeartbeats 1000000 in
theorem must_c (X : PCtx) (p : PS) (s : ByteArray) (w : World) (h : PSt w X p) :
    Calls Tryz.prog 66 #[.pointer (some ⟨X.P, 0, none⟩), .string s] w fun e w' => e = .returned (.tuple #[]) ∧ Mvd w w' X (mustS X.l p s.data.toList) := by
  have MC := Lib.hid (may_c X p s w h)
  unfold mustS
  obtain ⟨b, hb⟩ : ∃ b, b = isS X.l p s.data.toList := ⟨_, rfl⟩
  rw [← hb] at MC ⊢
  clear hb h
  cases b with
  | true =>
    go_enter Tryz.func66, Tryz.ntmps66
    go_wp2_with fail
    refine MC.out.mono ?_
    rintro e w1 ⟨rfl, hm⟩
    have HM := Lib.hid hm
    clear hm
    go_wp2_with fail
    go_end0
    exact ⟨rfl, HM.out⟩
  | false =>
    go_enter Tryz.func66, Tryz.ntmps66
    go_wp2_with fail
    refine MC.out.mono ?_
    rintro e w1 ⟨rfl, hm⟩
    have FC := Lib.hid (fail_c X p w1 hm.st)
    have HM := Lib.hid hm
    clear hm
    go_wp2_with fail
    refine FC.out.mono ?_
    rintro e w2 ⟨rfl, hm2⟩
    have HM2 := Lib.hid (HM.out.trans hm2)
    clear hm2
    go_wp2_with fail
    go_end0
    exact ⟨rfl, HM2.out⟩

theorem downS_ok {p : PS} (h : p.err = none) (hd : p.deep + 1 ≤ 160) : downS p = { p with deep := p.deep + 1 } := by unfold downS; rw [if_neg (by rintro ⟨a, _⟩; omega)]
theorem downS_far {p : PS} (h : p.err = none) (hd : 160 < p.deep + 1) : downS p = { p with deep := p.deep + 1, err := some none } := by unfold downS; rw [if_pos ⟨hd, by rw [h]; rfl⟩]
theorem downS_bad {p : PS} {e : Option Int} (h : p.err = some e) : downS p = { p with deep := p.deep + 1 } := by unfold downS; rw [if_neg (by rintro ⟨_, a⟩; rw [h] at a; cases a)]
set_option maxHeartbeats 1000000 in
theorem down_c (X : PCtx) (p : PS) (w : World) (h : PSt w X p) (h0 : 0 ≤ p.deep) (h1 : p.deep ≤ 1000) :
    Calls Tryz.prog 59 #[.pointer (some ⟨X.P, 0, none⟩)] w fun e w' => e = .returned (.bool (downS p).err.isNone) ∧ Mvd w w' X (downS p) := by
  have hpl := h.lt
  have hrm := h.room
  have hdp := h.er.deep
  have HM := Lib.hid (Mvd.of h)
  obtain ⟨ev, hP, hE⟩ := h.at_
  have c2 := hP.c2; have c3 := hP.c3; have f3 := hP.fr 3; have f2 := hP.fr 2
  obtain ⟨d, hd⟩ : ∃ d, d = p.deep := ⟨_, rfl⟩
  have b0 : IntKind.i64.wrap (d + 1) = d + 1 := IntWalk.i64_in _ ⟨by omega, by omega⟩
  cases he : p.err with
  | some x =>
    rw [he] at hE
    obtain ⟨t, v, rfl⟩ := errv_some hE
    rw [downS_bad he, he]
    have HD := Lib.hid (HM.out.dive (d + 1))
    rw [he] at HD
    rw [← hd] at h0 h1 c2 ⊢
    clear h hP hE he hd
    by_cases hx : (160 : Int) < d + 1
    · go_enter Tryz.func59, Tryz.ntmps59
      go_wp2_with fail
      go_ret
      exact ⟨rfl, HD.out⟩
    · go_enter Tryz.func59, Tryz.ntmps59
      go_wp2_with fail
      go_ret
      exact ⟨rfl, HD.out⟩
  | none =>
    rw [he] at hE
    obtain rfl : ev = .nilIface := hE
    have HD := Lib.hid (HM.out.dive (d + 1))
    rw [he] at HD
    by_cases hx : (160 : Int) < d + 1
    · rw [downS_far he (by omega)]
      have HX := Lib.hid HD.out.deepErr
      rw [← hd] at h0 h1 c2 ⊢
      clear h hP he hd
      go_enter Tryz.func59, Tryz.ntmps59
      go_wp2_with fail
      go_ret
      exact ⟨rfl, HX.out⟩
    · rw [downS_ok he (by omega), he]
      rw [← hd] at h0 h1 c2 ⊢
      clear h hP he hd
      go_enter Tryz.func59, Tryz.ntmps59
      go_wp2_with fail
      go_ret
      exact ⟨rfl, HD.out⟩

set_option maxHeartbeats 1000000 in
theorem up_c (X : PCtx) (p : PS) (w : World) (h : PSt w X p) (h0 : 0 ≤ p.deep) (h1 : p.deep ≤ 1000) :
    Calls Tryz.prog 60 #[.pointer (some ⟨X.P, 0, none⟩)] w fun e w' => e = .returned (.tuple #[]) ∧ Mvd w w' X (upS p) := by
  have HD := Lib.hid ((Mvd.of h).dive (p.deep - 1))
  obtain ⟨ev, hP, hE⟩ := h.at_
  have c2 := hP.c2; have f2 := hP.fr 2
  have b0 : IntKind.i64.wrap (p.deep - 1) = p.deep - 1 := IntWalk.i64_in _ ⟨by omega, by omega⟩
  unfold upS
  clear h hP hE
  go_enter Tryz.func60, Tryz.ntmps60
  go_wp2_with fail
  go_end0
  exact ⟨rfl, HD.out⟩
end Go.Proofs.YtggngahmafbihaaGreatDoor
namespace Go.Proofs.YtggngahmafbihaaGreatDoor
open Go.RowKit Go.Lib
set_option linter.unusedVariables false

theorem nameS_bad {l : List Tok} {p : PS} {e : Option Int} (h : p.err = some e) : nameS l p = (⟨#[]⟩, failS l p) := by unfold nameS; rw [h]
theorem nameS_out {l : List Tok} {p : PS} (h : l[p.pos]? = none) : nameS l p = (⟨#[]⟩, failS l p) := by
  unfold nameS; rw [h]; cases p.err <;> rfl
theorem nameS_not {l : List Tok} {p : PS} {t : Tok} (he : p.err = none) (h : l[p.pos]? = some t) (hk : t.kind ≠ 1) : nameS l p = (⟨#[]⟩, failS l p) := by
  unfold nameS; rw [he, h]; simp only; rw [if_neg (by simpa using hk)]
theorem nameS_ok {l : List Tok} {p : PS} {t : Tok} (he : p.err = none) (h : l[p.pos]? = some t) (hk : t.kind = 1) : nameS l p = (t.s, nextS p) := by
  unfold nameS; rw [he, h]; simp only; rw [if_pos (by simpa using hk)]

set_option maxRecDepth 100000 in
set_option maxHeartbeats 2000000 in
theorem name_pc (X : PCtx) (p : PS) (w : World) (h : PSt w X p) :
    Calls Tryz.prog 108 #[.pointer (some ⟨X.P, 0, none⟩)] w fun e w' => e = .returned (.string (nameS X.l p).1) ∧ Mvd w w' X (nameS X.l p).2 := by
  have hpl := h.lt
  have HM := Lib.hid (Mvd.of h)
  obtain ⟨ev, hP, hE⟩ := h.at_
  have c0 := hP.c0; have c1 := hP.c1; have c3 := hP.c3; have f1 := hP.fr 1
  have HL := Lib.hid h.len
  have FC := Lib.hid (fun W (hb : Below w.heap.size w W) => fail_c X p W (h.below hb))
  cases he : p.err with
  | some x =>
    rw [he] at hE
    obtain ⟨t, v, rfl⟩ := errv_some hE
    rw [nameS_bad he]
    clear h hP hE he
    go_enter Tryz.func108, Tryz.ntmps108
    go_wp2_with fail
    go_quiet (fail)
    go_wp2_with fail
    refine (FC.out (World.drewN w _) ⟨rfl, rfl, rfl, Nat.le_refl _, fun _ _ => rfl⟩).mono ?_
    rintro e w1 ⟨rfl, hm⟩
    have HM1 := Lib.hid ((HM.out.below (c := World.drewN w _) ⟨rfl, rfl, rfl, Nat.le_refl _, fun _ _ => rfl⟩).trans hm)
    clear hm
    go_wp2_with fail
    go_ret
    exact ⟨rfl, HM1.out⟩
  | none =>
    rw [he] at hE
    obtain rfl : ev = .nilIface := hE
    by_cases hp : p.pos < X.l.length
    · obtain ⟨t, ht⟩ := tok_at hp
      obtain ⟨g, sa, sc, hA, hg, t0, t1, t2, t3, t4, t5, t6⟩ := h.tok ht
      have b0 : (0 : Int) ≤ (p.pos : Int) := by omega
      have b1 : (p.pos : Int) < (X.l.length : Int) := by omega
      have b2 : decide (X.l.length ≤ p.pos) = false := decide_eq_false (by omega)
      have b5 : IntKind.i64.wrap ((p.pos : Int) + 1 - 1) = (p.pos : Int) := by
        have := h.len
        rw [show ((p.pos : Int) + 1 - 1) = (p.pos : Int) by omega]
        exact IntWalk.i64_in _ ⟨by omega, by omega⟩
      rw [hA] at c0
      by_cases hk : t.kind = 1
      · rw [nameS_ok he ht hk]
        rw [hk] at t0
        have HN := Lib.hid (HM.out.next hp)
        have HNn := Lib.hid (fun (j : Nat) => (HM.out.below (c := w.drewN j) ⟨rfl, rfl, rfl, Nat.le_refl _, fun _ _ => rfl⟩).next hp)
        obtain ⟨n, hn⟩ : ∃ n, n = X.l.length := ⟨_, rfl⟩
        obtain ⟨q, hq⟩ : ∃ q, q = p.pos := ⟨_, rfl⟩
        rw [← hn] at c0 b1 b2
        rw [← hq] at c1 b0 b1 b2 t0 t2 b5 HN HNn
        have hbig : q ≤ 1000000 := by have := HL.out; omega
        have hgP : ¬ g = X.P := by omega
        clear h hP he ht hp hq t1 t3 t4 t5 t6 hk FC hn
        go_enter Tryz.func108, Tryz.ntmps108
        go_wp2_with fail
        go_quiet (fail)
        go_wp2_with fail
        go_quiet (fail)
        go_wp2_with fail
        go_ret
        exact ⟨rfl, ((HNn.out _).below ⟨rfl, rfl, rfl, Nat.le_refl _, fun _ _ => rfl⟩)⟩
      · rw [nameS_not he ht hk]
        have nk : (t.kind == 1) = false := beq_eq_false_iff_ne.2 hk
        have nk2 : (t.kind != 1) = true := by rw [bne, nk]; rfl
        obtain ⟨kd, hkd⟩ : ∃ kd, kd = t.kind := ⟨_, rfl⟩
        rw [← hkd] at t0 nk nk2
        obtain ⟨n, hn⟩ : ∃ n, n = X.l.length := ⟨_, rfl⟩
        obtain ⟨q, hq⟩ : ∃ q, q = p.pos := ⟨_, rfl⟩
        rw [← hn] at c0 b1 b2
        rw [← hq] at c1 b0 b1 b2 t0
        clear h hP he ht hp hn hq t1 t2 t3 t4 t5 t6 hk hkd
        go_enter Tryz.func108, Tryz.ntmps108
        go_wp2_with fail
        go_quiet (fail)
        go_wp2_with fail
        refine (FC.out (World.drewN w _) ⟨rfl, rfl, rfl, Nat.le_refl _, fun _ _ => rfl⟩).mono ?_
        rintro e w1 ⟨rfl, hm⟩
        have HM1 := Lib.hid ((HM.out.below (c := World.drewN w _) ⟨rfl, rfl, rfl, Nat.le_refl _, fun _ _ => rfl⟩).trans hm)
        clear hm
        go_wp2_with fail
        go_ret
        exact ⟨rfl, HM1.out⟩
    · have hout : X.l[p.pos]? = none := List.getElem?_eq_none (by omega)
      rw [nameS_out hout]
      have b2 : (X.l.length : Int) ≤ (p.pos : Int) := by omega
      clear h hP he hp hout
      go_enter Tryz.func108, Tryz.ntmps108
      go_wp2_with fail
      go_quiet (fail)
      go_wp2_with fail
      refine (FC.out (World.drewN w _) ⟨rfl, rfl, rfl, Nat.le_refl _, fun _ _ => rfl⟩).mono ?_
      rintro e w1 ⟨rfl, hm⟩
      have HM1 := Lib.hid ((HM.out.below (c := World.drewN w _) ⟨rfl, rfl, rfl, Nat.le_refl _, fun _ _ => rfl⟩).trans hm)
      clear hm
      go_wp2_with fail
      go_ret
      exact ⟨rfl, HM1.out⟩

theorem atInt_at {l : List Tok} {i : Nat} {t : Tok} (h : l[i]? = some t) : atInt l i = (t.kind == 3 && t.k == 0) := by unfold atInt; rw [h]
theorem atInt_out {l : List Tok} {i : Nat} (h : l[i]? = none) : atInt l i = false := by unfold atInt; rw [h]
set_option maxRecDepth 100000 in
set_option maxHeartbeats 2000000 in
theorem integer_pc (X : PCtx) (p : PS) (i : Nat) (w : World) (h : PSt w X p) :
    Calls Tryz.prog 172 #[.pointer (some ⟨X.P, 0, none⟩), .int .i64 i] w fun e w' => e = .returned (.bool (atInt X.l i)) ∧ w = w' := by
  obtain ⟨ev, hP, hE⟩ := h.at_
  have c0 := hP.c0
  by_cases hp : i < X.l.length
  · obtain ⟨t, ht⟩ := tok_at hp
    obtain ⟨g, sa, sc, hA, hg, t0, t1, t2, t3, t4, t5, t6⟩ := h.tok ht
    have b0 : (0 : Int) ≤ (i : Int) := by omega
    have b1 : (i : Int) < (X.l.length : Int) := by omega
    rw [hA] at c0
    rw [atInt_at ht]
    by_cases k3 : t.kind = 3
    · rw [k3] at t0 ⊢
      obtain ⟨n, hn⟩ : ∃ n, n = X.l.length := ⟨_, rfl⟩
      rw [← hn] at c0 b1
      obtain ⟨kk, hkk⟩ : ∃ kk, kk = t.k := ⟨_, rfl⟩
      rw [← hkk] at t3 ⊢
      clear h hP hE ht hp hn t1 t2 t4 t5 t6 k3 hkk
      go_enter Tryz.func172, Tryz.ntmps172
      go_wp2_with fail
      go_ret
      exact ⟨rfl, rfl⟩
    · have n3 : (t.kind == 3) = false := beq_eq_false_iff_ne.2 k3
      rw [n3]
      obtain ⟨n, hn⟩ : ∃ n, n = X.l.length := ⟨_, rfl⟩
      rw [← hn] at c0 b1
      obtain ⟨kk, hkk⟩ : ∃ kk, kk = t.kind := ⟨_, rfl⟩
      rw [← hkk] at t0 n3
      obtain ⟨kq, hkq⟩ : ∃ kk, kk = t.k := ⟨_, rfl⟩
      rw [← hkq]
      clear h hP hE ht hp hn t1 t2 t3 t4 t5 t6 k3 hkk hkq
      go_enter Tryz.func172, Tryz.ntmps172
      go_wp2_with fail
      go_ret
      exact ⟨rfl, rfl⟩
  · have hout : X.l[i]? = none := List.getElem?_eq_none (by omega)
    have b2 : ¬ (i : Int) < (X.l.length : Int) := by omega
    rw [atInt_out hout]
    clear h hP hE hp hout
    go_enter Tryz.func172, Tryz.ntmps172
    go_wp2_with fail
    go_ret
    exact ⟨rfl, rfl⟩
end Go.Proofs.YtggngahmafbihaaGreatDoor
namespace Go.Proofs.YtggngahmafbihaaGreatDoor
open Go.RowKit Go.Lib
set_option linter.unusedVariables false

/-- Each Index and each Splice has something. -/
def okN : NL → Prop
  | .nil => True
  | .cons op _ _ _ _ _ _ sub r => (op = 20 ∨ op = 26 → sub.len ≠ 0) ∧ okN sub ∧ okN r
theorem okN_app : ∀ a b : NL, okN a → okN b → okN (a.app b)
  | .nil, _, _, h => h
  | .cons _ _ _ _ _ _ _ _ r, b, h, hb => ⟨h.1, h.2.1, okN_app r b h.2.2 hb⟩
theorem okN_drop : ∀ (i : Nat) (l : NL), okN l → okN (l.drop i)
  | 0, l, h => by rw [NL.drop]; exact h
  | i + 1, .nil, h => h
  | i + 1, .cons _ _ _ _ _ _ _ _ r, h => okN_drop i r h.2.2
theorem NdB.set8 {w : World} {g : Nat} {a b c d e f h i : Value} (H : NdB w g a b c d e f h i) (a' b' c' d' e' f' h' i' : Value) :
    NdB ((((((((w.setCell ⟨g, 0, none⟩ a').setCell ⟨g, 1, none⟩ b').setCell ⟨g, 2, none⟩ c').setCell ⟨g, 3, none⟩ d').setCell ⟨g, 4, none⟩ e').setCell ⟨g, 5, none⟩ f').setCell ⟨g, 6, none⟩ h').setCell ⟨g, 7, none⟩ i') g a' b' c' d' e' f' h' i' := by
  unfold NdB at H ⊢; simp [World.setCell, Array.getElem?_modify, H]
theorem below_st8 {w w' : World} {B : Nat} (h : Below B w w') {g : Nat} (hg : B ≤ g) (a b c d e f k m : Value) :
    Below B w ((((((((w'.setCell ⟨g, 0, none⟩ a).setCell ⟨g, 1, none⟩ b).setCell ⟨g, 2, none⟩ c).setCell ⟨g, 3, none⟩ d).setCell ⟨g, 4, none⟩ e).setCell ⟨g, 5, none⟩ f).setCell ⟨g, 6, none⟩ k).setCell ⟨g, 7, none⟩ m) :=
  Below.setCell (Below.setCell (Below.setCell (Below.setCell (Below.setCell (Below.setCell (Below.setCell (Below.setCell h hg _) hg _) hg _) hg _) hg _) hg _) hg _) hg _

/-- A node that may be set, or that has what may be: as told of one node. -/
def setB (op : Int) (sub : NL) : Bool := if op = 20 then settableS sub else op == 2 || op == 22
theorem settableS_nd (op ln : Int) (s : ByteArray) (k n : Int) (t : ByteArray) (sub : NL) : settableS (nd op ln s k n t sub) = setB op sub := rfl

set_option maxRecDepth 100000 in
set_option maxHeartbeats 2000000 in
theorem settable_pc (op ln : Int) (s : ByteArray) (k n : Int) (t : ByteArray) (va : Option Addr) (vc : Nat) (sub : NL) (sa : Option Addr) (sc : Nat) (w : World) (hok : okN (nd op ln s k n t sub)) (hc : sub.len ≤ sc) (hr : RpN w (fun b => b < w.heap.size) sub sa) :
    Calls Tryz.prog 102 #[.agg (nd8 op ln s k n t va vc (.slice sa sub.len sc))] w fun e w' => e = .returned (.bool (setB op sub)) ∧ Below w.heap.size w w' := by
  obtain ⟨wa, hwa⟩ : ∃ wa, wa = w.alloc (.cells #[.int .i64 op, .int .i64 ln, .string s, .int .i64 k, .int .i64 n, .string t, .slice va 0 vc, .slice sa sub.len sc] 31) := ⟨_, rfl⟩
  have hba : Below w.heap.size w wa := by rw [hwa]; exact (Below.refl _ _).alloc (Nat.le_refl _) _
  have hN : NdB wa w.heap.size (.int .i64 op) (.int .i64 ln) (.string s) (.int .i64 k) (.int .i64 n) (.string t) (.slice va 0 vc) (.slice sa sub.len sc) := by rw [hwa]; exact NdB.new _ _ _ _ _ _ _ _ _
  obtain ⟨r, hr0⟩ : ∃ r, r = setB op sub := ⟨_, rfl⟩
  rw [← hr0]
  have HR := Lib.hid hr0
  have HBA := Lib.hid hba
  have HNN := Lib.hid hN
  have HWA := Lib.hid hwa
  have HRP := Lib.hid hr
  have HOK := Lib.hid hok
  clear hba hN hr0 hwa hr hok
  unfold nd8
  go_enter Tryz.func102, Tryz.ntmps102
  go_wp2_with fail
  rw [← HWA.out]
  go_loopg [] (sub.tot) (fun kk wr => ∃ (op' ln' : Int) (s' : ByteArray) (k' n' : Int) (t' : ByteArray) (v' : VL) (va' : Option Addr) (vc' : Nat) (sub' : NL) (sa' : Option Addr) (sc' : Nat), sub'.tot ≤ kk ∧ sub'.len ≤ sc' ∧ Hid (NdB wr w.heap.size (.int .i64 op') (.int .i64 ln') (.string s') (.int .i64 k') (.int .i64 n') (.string t') (.slice va' v'.len vc') (.slice sa' sub'.len sc')) ∧ Hid (Below w.heap.size w wr) ∧ Hid (RpN w (fun b => b < w.heap.size) sub' sa') ∧ Hid ((op' = 20 ∨ op' = 26 → sub'.len ≠ 0) ∧ okN sub') ∧ Hid (r = setB op' sub'))
  case atStart => exact ⟨op, ln, s, k, n, t, .nil, va, vc, sub, sa, sc, Nat.le_refl _, hc, HNN, HBA, HRP, ⟨HOK.out.1, HOK.out.2.1⟩, HR⟩
  case round =>
    obtain ⟨op', ln', s', k', n', t', v', va', vc', sub', sa', sc', hk, hc', HN, HB, HP, HO, HQ⟩ := hrel
    have c0 := HN.out.c0
    have c7 := HN.out.c7
    by_cases h20 : op' = 20
    · subst h20
      have hlen := HO.out.1 (.inl rfl)
      obtain ⟨b, o, op2, ln2, s2, k2, n2, t2, v2, sub2, va2, vc2, sa2, sc2, hA, hS, hd, a0, a1, a2, a3, a4, a5, a6, hvc, hv, a7, hsc, hs⟩ := HP.out.nth (i := 0) (by omega)
      rw [Nat.zero_mul, Nat.add_zero] at a0 a1 a2 a3 a4 a5 a6 a7
      rw [NL.drop] at hd
      have HQ2 := Lib.hid (show r = setB op2 sub2 by rw [HQ.out, hd]; rfl)
      have htot : sub'.tot = 1 + sub2.tot + (sub'.drop (0 + 1)).tot := by rw [hd]; rfl
      have HO2 := Lib.hid (show (op2 = 20 ∨ op2 = 26 → sub2.len ≠ 0) ∧ okN sub2 by have := HO.out.2; rw [hd] at this; exact ⟨this.1, this.2.1⟩)
      have hbl : ∀ j, wr.cell? ⟨b, j, none⟩ = w.cell? ⟨b, j, none⟩ := fun j => HB.out.cell (p := ⟨b, j, none⟩) hS
      have q0 := (hbl _).trans a0; have q1 := (hbl _).trans a1; have q2 := (hbl _).trans a2; have q3 := (hbl _).trans a3; have q4 := (hbl _).trans a4; have q5 := (hbl _).trans a5; have q6 := (hbl _).trans a6; have q7 := (hbl _).trans a7
      have f0 := HN.out.fr 0; have f1 := HN.out.fr 1; have f2 := HN.out.fr 2; have f3 := HN.out.fr 3; have f4 := HN.out.fr 4; have f5 := HN.out.fr 5; have f6 := HN.out.fr 6; have f7 := HN.out.fr 7
      have c1 := HN.out.c1; have c2 := HN.out.c2; have c3 := HN.out.c3; have c4 := HN.out.c4; have c5 := HN.out.c5; have c6 := HN.out.c6
      have hlp : (0 : Int) < (sub'.len : Int) := by omega
      have HS2 := Lib.hid hs
      subst hA
      clear hd hv hbl a0 a1 a2 a3 a4 a5 a6 a7 hs
      go_wp2_with fail
      go_roundg (sub2.tot)
      case measure => omega
      case rel => exact ⟨op2, ln2, s2, k2, n2, t2, v2, va2, vc2, sub2, sa2, sc2, Nat.le_refl _, hsc, Lib.hid (HN.out.set8 _ _ _ _ _ _ _ _), Lib.hid (below_st8 HB.out (Nat.le_refl _) _ _ _ _ _ _ _ _), HS2, HO2, HQ2⟩
    · have n20 : (op' == 20) = false := beq_eq_false_iff_ne.2 h20
      have HQ2 := Lib.hid (show r = (op' == 2 || op' == 22) by rw [HQ.out]; unfold setB; rw [if_neg h20])
      clear h20
      by_cases h2 : op' = 2
      · subst h2
        go_wp2_with fail
        go_ret
        exact ⟨by rw [HQ2.out]; rfl, HB.out⟩
      · have n2 : (op' == 2) = false := beq_eq_false_iff_ne.2 h2
        rw [n2, Bool.false_or] at HQ2
        clear h2
        go_wp2_with fail
        go_ret
        exact ⟨by rw [HQ2.out]; rfl, HB.out⟩

theorem varsS_drop {sub : NL} {i : Nat} {op ln : Int} {s : ByteArray} {k n : Int} {t : ByteArray} {v : VL} {sub' : NL} (hi : i < sub.len) (hd : sub.drop i = .cons op ln s k n t v sub' (sub.drop (i + 1))) :
    varsS (sub.drop i) = ((if i + 1 = sub.len ∧ op = 26 then sub'.op == 2 else op == 2) && varsS (sub.drop (i + 1))) := by
  rw [hd]
  have hl := NL.len_drop (i + 1) sub
  cases hq : sub.drop (i + 1) with
  | nil =>
    rw [hq] at hl
    simp only [NL.len] at hl
    simp only [varsS]
    by_cases h26 : op = 26
    · rw [if_pos h26, if_pos ⟨by omega, h26⟩]
    · rw [if_neg h26, if_neg (fun h => h26 h.2)]
  | cons =>
    rw [hq] at hl
    simp only [NL.len] at hl
    rw [if_neg (fun h => by omega)]
    simp only [varsS]
theorem cellA {w : World} {a : Addr} {v : Value} (h : w.cell? a = some v) (o : Obj) : (w.alloc o).cell? a = some v := by
  have hlt : a.block < w.heap.size := by
    unfold World.cell? at h
    rcases Nat.lt_or_ge a.block w.heap.size with hlt | hge
    · exact hlt
    · rw [Array.getElem?_eq_none hge] at h; cases h
  exact (World.cell?_of_block (w := w) (Below.heap_alloc _ _ _ hlt)).trans h
/-- What a call of target shows. -/
def TgOut (D : Nat → Prop) (r : Option (Int × NL)) (e : Ending) (w' : World) : Prop := match r with
  | none => e = .returned (.tuple #[.int .i64 0, .slice none 0 0])
  | some (o, tl) => ∃ V, e = .returned (.tuple #[.int .i64 o, V]) ∧ OwnN w' D V tl
theorem TgOut.none_ (D : Nat → Prop) (w' : World) : TgOut D none (.returned (.tuple #[.int .i64 0, .slice none 0 0])) w' := rfl
theorem TgOut.some_ {D : Nat → Prop} {o : Int} {tl : NL} {V : Value} {w' : World} (h : OwnN w' D V tl) : TgOut D (some (o, tl)) (.returned (.tuple #[.int .i64 o, V])) w' := ⟨V, rfl, h⟩

set_option maxRecDepth 100000 in
set_option maxHeartbeats 4000000 in
theorem target_pc (op ln : Int) (s : ByteArray) (k n : Int) (t : ByteArray) (va : Option Addr) (vc : Nat) (V : Value) (sub : NL) (D : Nat → Prop) (w : World) (hok : okN (nd op ln s k n t sub)) (hV : OwnN w D V sub) (hD : ∀ k, w.heap.size ≤ k → D k) (hlen : sub.len ≤ 100000000000) :
    Calls Tryz.prog 58 #[.agg (nd8 op ln s k n t va vc V)] w fun e w' => TgOut D (targetS (nd op ln s k n t sub)) e w' ∧ Below w.heap.size w w' := by
  obtain ⟨sa, sc, rfl, hsc, hnone, hrp⟩ := hV.kids
  obtain ⟨wa, hwa⟩ : ∃ wa, wa = w.alloc (.cells #[.int .i64 op, .int .i64 ln, .string s, .int .i64 k, .int .i64 n, .string t, .slice va 0 vc, .slice sa sub.len sc] 31) := ⟨_, rfl⟩
  have hba : Below w.heap.size w wa := by rw [hwa]; exact (Below.refl _ _).alloc (Nat.le_refl _) _
  have hN : NdB wa w.heap.size (.int .i64 op) (.int .i64 ln) (.string s) (.int .i64 k) (.int .i64 n) (.string t) (.slice va 0 vc) (.slice sa sub.len sc) := by rw [hwa]; exact NdB.new _ _ _ _ _ _ _ _ _
  have c0 := hN.c0; have c1 := hN.c1; have c2 := hN.c2; have c3 := hN.c3; have c4 := hN.c4; have c5 := hN.c5; have c6 := hN.c6; have c7 := hN.c7
  have hz : wa.heap.size = w.heap.size + 1 := by rw [hwa]; simp
  have SC := Lib.hid (settable_pc op ln s k n t va vc sub sa sc wa hok hsc (hrp.keep (fun b hb => hba.block b hb.2) (fun b hb => by omega)))
  have HRP := Lib.hid hrp
  have HV := Lib.hid hV
  have HBA := Lib.hid hba
  have HNN := Lib.hid hN
  have HWA := Lib.hid hwa
  have HOK := Lib.hid hok.2.1
  rw [hwa] at c0 c1 c2 c3 c4 c5 c6 c7
  unfold nd8 at SC ⊢
  cases hs : setB op sub with
  | true =>
    rw [hs] at SC
    have HT : targetS (nd op ln s k n t sub) = some (27, nd op ln s k n t sub) := by
      unfold targetS; rw [settableS_nd, hs]; rfl
    rw [HT]
    clear hba hN hwa hok hV hrp hs HT
    go_enter Tryz.func58, Tryz.ntmps58
    go_wp2_with fail
    rw [← HWA.out]
    refine SC.out.mono ?_
    rintro e w1 ⟨rfl, hb1⟩
    have hn1 := HNN.out.below' hb1
    have d0 := hn1.c0; have d1 := hn1.c1; have d2 := hn1.c2; have d3 := hn1.c3; have d4 := hn1.c4; have d5 := hn1.c5; have d6 := hn1.c6; have d7 := hn1.c7
    have hb := HBA.out.trans (below_le' hb1 HBA.out.size)
    have HB := Lib.hid hb
    have HO := Lib.hid (OwnN.lit (cs := nd8 op ln s k n t va vc (.slice sa sub.len sc)) ((HV.out.below hb).row1 op ln s k n t va vc) (hD _ hb.size) (by show 1 ≤ _; decide))
    clear hb1 hn1 hb c0 c1 c2 c3 c4 c5 c6 c7
    go_wp2_with fail
    go_region
    go_wp2_with fail
    go_ret2
    exact ⟨TgOut.some_ (HO.out.below (Below.drew (Below.refl _ _))), (HB.out.alloc HB.out.size _).drew⟩
  | false =>
    rw [hs] at SC
    have HS := Lib.hid hs
    by_cases h25 : op = 25
    · subst h25
      by_cases hl0 : sub.len = 0
      · have HT : targetS (nd 25 ln s k n t sub) = none := by
          unfold targetS; rw [settableS_nd, HS.out]
          simp [nd, NL.op, NL.kids, hl0]
        rw [HT, hl0]
        rw [hl0] at SC HWA HNN c7
        clear hba hN hwa hok hV hrp hs HT HS hl0
        go_enter Tryz.func58, Tryz.ntmps58
        go_wp2_with fail
        rw [← HWA.out]
        refine SC.out.mono ?_
        rintro e w1 ⟨rfl, hb1⟩
        have hn1 := HNN.out.below' hb1
        have d0 := hn1.c0; have d7 := hn1.c7
        have HB := Lib.hid (HBA.out.trans (below_le' hb1 HBA.out.size))
        clear hb1 hn1 c0 c1 c2 c3 c4 c5 c6 c7
        go_wp2_with fail
        go_ret2
        exact ⟨TgOut.none_ _ _, HB.out⟩
      · obtain ⟨r, hr⟩ : ∃ r, r = varsS sub := ⟨_, rfl⟩
        have HR := Lib.hid hr
        have HT : targetS (nd 25 ln s k n t sub) = if r = true then some (28, sub) else none := by
          unfold targetS; rw [settableS_nd, HS.out, hr]
          simp [nd, NL.op, NL.kids, hl0]
        rw [HT]
        obtain ⟨R, hR⟩ : ∃ R, R = (if r = true then some (28, sub) else none : Option (Int × NL)) := ⟨_, rfl⟩
        rw [← hR]
        have HRR := Lib.hid hR
        have hlp : ¬ (sub.len : Int) = 0 := by omega
        have hlb : ((sub.len : Int) == 0) = false := beq_eq_false_iff_ne.2 hlp
        have hwrap : IntKind.i64.wrap ((sub.len : Int) - 1) = (sub.len : Int) - 1 := IntWalk.i64_in _ ⟨by omega, by omega⟩
        clear hba hN hwa hok hV hrp hs HT HS hr hR
        go_enter Tryz.func58, Tryz.ntmps58
        go_wp2_with fail
        rw [← HWA.out]
        refine SC.out.mono ?_
        rintro e w1 ⟨rfl, hb1⟩
        have hn1 := HNN.out.below' hb1
        have d0 := hn1.c0; have d7 := hn1.c7
        have HN1 := Lib.hid hn1
        have HB := Lib.hid (HBA.out.trans (below_le' hb1 HBA.out.size))
        have hz1 := hb1.size
        clear hb1 hn1 c0 c1 c2 c3 c4 c5 c6 c7
        go_wp2_with fail
        go_loopg [22] sub.len (fun kk iv wr => ∃ i : Nat, iv = .int .i64 i ∧ i + kk = sub.len ∧ Hid (Below w1.heap.size w1 wr) ∧ Hid (r = varsS (sub.drop i)))
        case atStart => exact ⟨0, rfl, by omega, Below.refl _ _, by rw [NL.drop]; exact HR.out⟩
        case round =>
          obtain ⟨i, rfl, hk, HBR, HQ⟩ := hrel
          have hnr := HN1.out.below' HBR.out
          have e0 := hnr.c0
          have e7 := hnr.c7
          by_cases hi : i < sub.len
          · have hwr := HB.out.trans (below_le' HBR.out (by have := HB.out.size; omega))
            obtain ⟨b, o, op2, ln2, s2, k2, n2, t2, v2, sub2, va2, vc2, sa2, sc2, hA, hS, hd, a0, a1, a2, a3, a4, a5, a6, hvc, hv, a7, hsc2, hs2⟩ := (HRP.out.keep (w' := wr) (S' := fun b => b < w.heap.size) (fun b hb => hwr.block b hb.2) (fun b hb => hb.2)).nth hi
            have htk := varsS_drop hi hd
            have htk := varsS_drop hi hd
            obtain ⟨kk, rfl⟩ : ∃ kk, gk = kk + 1 := ⟨gk - 1, by omega⟩
            have b0 : (0 : Int) ≤ (i : Int) := by omega
            have b1 : (i : Int) < (sub.len : Int) := by omega
            have E7 := fun o => cellA e7 o
            have hwz := hwr.size
            have HWR := Lib.hid hwr
            subst hA
            by_cases hlast : i + 1 = sub.len ∧ op2 = 26
            · obtain ⟨hlast, h26⟩ := hlast
              have blast : ((i : Int) == (sub.len : Int) - 1) = true := beq_iff_eq.2 (by omega)
              subst h26
              rw [if_pos ⟨hlast, rfl⟩] at htk
              have hok2 : sub2.len ≠ 0 := by have := okN_drop i sub HOK.out; rw [hd] at this; exact this.1 (.inr rfl)
              obtain ⟨b', o', op3, ln3, s3, k3, n3, t3, v3, sub3, va3, vc3, sa3, sc3, hA3, hS3, hd3, x0, x1, x2, x3, x4, x5, x6, hvc3, hv3, x7, hsc3, hs3⟩ := hs2.nth (i := 0) (by omega)
              rw [Nat.zero_mul, Nat.add_zero] at x0 x1 x2 x3 x4 x5 x6 x7
              rw [NL.drop] at hd3
              have hop3 : sub2.op = op3 := by rw [hd3]; rfl
              rw [hop3] at htk
              subst hA3
              have hlp2 : (0 : Int) < (sub2.len : Int) := by omega
              have X0 := fun o => cellA x0 o; have X1 := fun o => cellA x1 o; have X2 := fun o => cellA x2 o; have X3 := fun o => cellA x3 o
              have X4 := fun o => cellA x4 o; have X5 := fun o => cellA x5 o; have X6 := fun o => cellA x6 o; have X7 := fun o => cellA x7 o
              have HTK := Lib.hid (HQ.out.trans htk)
              have HBN := Lib.hid (fun o => HBR.out.alloc HBR.out.size o)
              have HWA2 := Lib.hid (fun o => HWR.out.alloc HWR.out.size o)
              clear hd hd3 htk hv hs2 hv3 hs3 HQ x0 x1 x2 x3 x4 x5 x6 x7 hwr
              by_cases hv2 : op3 = 2
              · subst hv2
                go_wp2_with fail
                go_roundg kk
                case measure => omega
                case rel => exact ⟨i + 1, by go_num, by omega, Lib.hid (HBN.out _), Lib.hid (HTK.out.trans (by rfl))⟩
              · have m2 : (op3 == 2) = false := beq_eq_false_iff_ne.2 hv2
                have m3 : (op3 != 2) = true := by rw [bne, m2]; rfl
                rw [m2] at HTK
                have HTN := Lib.hid (show R = none by rw [HRR.out, show r = false from HTK.out]; rfl)
                clear hv2
                go_wp2_with fail
                go_ret2
                rw [HTN.out]
                exact ⟨TgOut.none_ _ _, HWA2.out _⟩
            · rw [if_neg hlast] at htk
              have blast : ((i : Int) == (sub.len : Int) - 1) = false ∨ (((i : Int) == (sub.len : Int) - 1) = true ∧ (op2 == 26) = false) := by
                by_cases hl : i + 1 = sub.len
                · exact .inr ⟨beq_iff_eq.2 (by omega), beq_eq_false_iff_ne.2 (fun h => hlast ⟨hl, h⟩)⟩
                · exact .inl (beq_eq_false_iff_ne.2 (by omega))
              have HTK := Lib.hid (HQ.out.trans htk)
              have HBN := Lib.hid (fun o => HBR.out.alloc HBR.out.size o)
              have HWA2 := Lib.hid (fun o => HWR.out.alloc HWR.out.size o)
              clear hd htk hv hs2 HQ hwr hlast
              rcases blast with blast | ⟨blast, b26⟩
              all_goals
                by_cases hv2 : op2 = 2
                · subst hv2
                  go_wp2_with fail
                  go_roundg kk
                  case measure => omega
                  case rel => exact ⟨i + 1, by go_num, by omega, Lib.hid (HBN.out _), Lib.hid (HTK.out.trans (by rfl))⟩
                · have m2 : (op2 == 2) = false := beq_eq_false_iff_ne.2 hv2
                  have m3 : (op2 != 2) = true := by rw [bne, m2]; rfl
                  rw [m2] at HTK
                  have HTN := Lib.hid (show R = none by rw [HRR.out, show r = false from HTK.out]; rfl)
                  clear hv2
                  go_wp2_with fail
                  go_ret2
                  rw [HTN.out]
                  exact ⟨TgOut.none_ _ _, HWA2.out _⟩
          · obtain rfl : i = sub.len := by omega
            have hrt : r = true := by rw [HQ.out, NL.drop_len]; rfl
            have HTN := Lib.hid (show R = some (28, sub) by rw [HRR.out, hrt]; rfl)
            have HOF := Lib.hid ((HV.out.below HB.out).below HBR.out)
            have HBF := Lib.hid (HB.out.trans (below_le' HBR.out (by have := HB.out.size; omega)))
            go_wp2_with fail
            go_quiet (fail)
            go_wp2_with fail
            go_ret2
            rw [HTN.out]
            exact ⟨TgOut.some_ (HOF.out.below ⟨rfl, rfl, rfl, Nat.le_refl _, fun _ _ => rfl⟩), HBF.out.trans ⟨rfl, rfl, rfl, Nat.le_refl _, fun _ _ => rfl⟩⟩
    · have HT : targetS (nd op ln s k n t sub) = none := by
        unfold targetS; rw [settableS_nd, HS.out]
        simp [nd, NL.op, h25]
      rw [HT]
      have n25 : (op == 25) = false := beq_eq_false_iff_ne.2 h25
      have m25 : (op != 25) = true := by rw [bne, n25]; rfl
      clear hba hN hwa hok hV hrp hs HT HS h25
      go_enter Tryz.func58, Tryz.ntmps58
      go_wp2_with fail
      rw [← HWA.out]
      refine SC.out.mono ?_
      rintro e w1 ⟨rfl, hb1⟩
      have hn1 := HNN.out.below' hb1
      have d0 := hn1.c0; have d7 := hn1.c7
      have HB := Lib.hid (HBA.out.trans (below_le' hb1 HBA.out.size))
      clear hb1 hn1 c0 c1 c2 c3 c4 c5 c6 c7
      go_wp2_with fail
      go_ret2
      exact ⟨TgOut.none_ _ _, HB.out⟩
end Go.Proofs.YtggngahmafbihaaGreatDoor
namespace Go.Proofs.YtggngahmafbihaaGreatDoor
open Go.RowKit Go.Lib
set_option linter.unusedVariables false

/-- A struct of eight cells handed back. -/
theorem ret_cell8 {fn : Func} {p : Tmp} {Q : Ending → World → Prop} {act : Act} {w : World} (hr : fn.results = #[.cell p 31]) (g : Nat) (hp : act.tmps.getD p undef = .pointer (some ⟨g, 0, none⟩)) (hd : act.defers = [])
    {a b c d e f h i : Value} (hS : NdB w g a b c d e f h i) (hQ : Q (.returned (.agg #[a, b, c, d, e, f, h, i])) w) : bodyPost Tryz.prog fn Q .ret act w := by
  refine bodyPost_ret (v := .agg #[a, b, c, d, e, f, h, i]) ?_ hd hQ
  have c0 := hS.c0; have c1 := hS.c1; have c2 := hS.c2; have c3 := hS.c3; have c4 := hS.c4; have c5 := hS.c5; have c6 := hS.c6; have c7 := hS.c7
  have hp' : (act.tmps[p]?).getD undef = .pointer (some ⟨g, 0, none⟩) := by simpa using hp
  simp [results, hr, hp', go_sem, c0, c1, c2, c3, c4, c5, c6, c7]

/-- A call that gives a node. -/
def PNd (X : PCtx) (D : Nat → Prop) (w : World) (p : PS) (f : Nat) (r : NL × PS) (e : Ending) (w' : World) : Prop :=
  ∃ (op ln : Int) (s : ByteArray) (k n : Int) (t : ByteArray) (va : Option Addr) (vc : Nat) (V : Value) (sub : NL), r.1 = nd op ln s k n t sub ∧ e = .returned (.agg (nd8 op ln s k n t va vc V)) ∧
    Mvd w w' X r.2 ∧ OwnN w' D V sub ∧ okN r.1 ∧ sub.len ≤ 2 * f + 10 ∧ r.2.deep = p.deep
/-- A call that gives a row of nodes. -/
def PNl (X : PCtx) (D : Nat → Prop) (w : World) (p : PS) (f : Nat) (r : NL × PS) (e : Ending) (w' : World) : Prop :=
  ∃ (V : Value), e = .returned V ∧ Mvd w w' X r.2 ∧ OwnN w' D V r.1 ∧ okN r.1 ∧ r.1.len ≤ 2 * f + 2 ∧ r.2.deep = p.deep
def NodeC (X : PCtx) (fn : Nat) (args : Array Value) (rq : Req) (f : Nat) : Prop := ∀ (w : World) (p : PS) (r : NL × PS), PSt w X p → 0 ≤ p.deep → p.deep ≤ 160 → prsR X.l f rq p = some r →
  Calls Tryz.prog fn (#[.pointer (some ⟨X.P, 0, none⟩)] ++ args) w (PNd X (fun k => w.heap.size ≤ k) w p f r)
def ListC (X : PCtx) (fn : Nat) (args : Array Value) (rq : Req) (f : Nat) : Prop := ∀ (w : World) (p : PS) (r : NL × PS), PSt w X p → 0 ≤ p.deep → p.deep ≤ 160 → prsR X.l f rq p = some r →
  Calls Tryz.prog fn (#[.pointer (some ⟨X.P, 0, none⟩)] ++ args) w (PNl X (fun k => w.heap.size ≤ k) w p f r)
/-- behind: a node handed in. -/
def BehC (X : PCtx) (f : Nat) : Prop := ∀ (op ln : Int) (s : ByteArray) (k n : Int) (t : ByteArray) (va : Option Addr) (vc : Nat) (V : Value) (sub : NL) (D : Nat → Prop) (w : World) (p : PS) (r : NL × PS), PSt w X p → 0 ≤ p.deep → p.deep ≤ 160 →
  OwnN w D V sub → (∀ k, D k → X.P < k) → (∀ k, w.heap.size ≤ k → D k) → okN (nd op ln s k n t sub) → sub.len ≤ 2 * f + 10 → prsR X.l f (.behind (nd op ln s k n t sub)) p = some r →
  Calls Tryz.prog 173 #[.pointer (some ⟨X.P, 0, none⟩), .agg (nd8 op ln s k n t va vc V)] w (PNd X D w p f r)
/-- All that reads an expression, up to a fuel. -/
structure EC (X : PCtx) (F : Nat) : Prop where
  expr : ∀ f, f ≤ F → NodeC X 26 #[] .expr f
  cond : ∀ f, f ≤ F → NodeC X 56 #[] .cond f
  two : ∀ f, f ≤ F → ∀ k : Nat, k ≤ 5 → NodeC X 101 #[.int .i64 k] (.two k) f
  one : ∀ f, f ≤ F → NodeC X 146 #[] .one f
  part : ∀ f, f ≤ F → NodeC X 203 #[] .part f
  behind : ∀ f, f ≤ F → BehC X f
  items : ∀ f, f ≤ F → ∀ e : ByteArray, ListC X 204 #[.string e] (.items e.data.toList) f
  row : ∀ f, f ≤ F → ListC X 231 #[] (.row .nil) f
  codes : ∀ f, f ≤ F → NodeC X 111 #[] .codes f
  first : ∀ f, f ≤ F → NodeC X 174 #[] .first f
  within : ∀ f, f ≤ F → ∀ e : ByteArray, NodeC X 109 #[.string e] (.within e.data.toList) f
  caught : ∀ f, f ≤ F → ∀ ln : Int, NodeC X 205 #[.int .i64 ln] (.caught ln) f

@[simp] theorem failS_deep (l : List Tok) (p : PS) : (failS l p).deep = p.deep := by unfold failS; split <;> rfl
@[simp] theorem nextS_deep (p : PS) : (nextS p).deep = p.deep := rfl
@[simp] theorem mustS_deep (l : List Tok) (p : PS) (s : List UInt8) : (mustS l p s).deep = p.deep := by unfold mustS; split <;> simp
@[simp] theorem nameS_deep (l : List Tok) (p : PS) : (nameS l p).2.deep = p.deep := by
  unfold nameS; split
  · split <;> simp
  · simp
@[simp] theorem downS_deep (p : PS) : (downS p).deep = p.deep + 1 := by unfold downS; split <;> rfl
@[simp] theorem upS_deep (p : PS) : (upS p).deep = p.deep - 1 := rfl
theorem downS_le {p : PS} (h : (downS p).err.isNone = true) : p.deep + 1 ≤ 160 := by
  unfold downS at h
  split at h
  · cases h
  · rename_i hc
    have : ¬ 160 < p.deep + 1 := fun hd => hc ⟨hd, h⟩
    omega

theorem only_keeps {w w' : World} {P g : Nat} (hg : w.grownBy w' (some P)) (h : g < w.heap.size) (hP : P ≠ g) : w'.heap[g]? = w.heap[g]? := hg.block g h (fun e => by injection e with e; exact hP e.symm)
theorem NdB.grown {w w' : World} {P g : Nat} {a b c d e f h i : Value} (H : NdB w g a b c d e f h i) (hg : w.grownBy w' (some P)) (hP : P < g) : NdB w' g a b c d e f h i := (only_keeps hg H.lt (by omega)).trans H
theorem NdB.far {w : World} {g : Nat} {a b c d e f h i : Value} (H : NdB w g a b c d e f h i) {p : Addr} (hp : g ≠ p.block) (u : Value) : NdB (w.setCell p u) g a b c d e f h i := (Below.heap_setCell _ _ _ _ hp).trans H
theorem NdB.set0 {w : World} {g : Nat} {a b c d e f h i : Value} (H : NdB w g a b c d e f h i) (u : Value) : NdB (w.setCell ⟨g, 0, none⟩ u) g u b c d e f h i := by unfold NdB at H ⊢; simp [World.setCell, Array.getElem?_modify, H]
theorem NdB.set1 {w : World} {g : Nat} {a b c d e f h i : Value} (H : NdB w g a b c d e f h i) (u : Value) : NdB (w.setCell ⟨g, 1, none⟩ u) g a u c d e f h i := by unfold NdB at H ⊢; simp [World.setCell, Array.getElem?_modify, H]
theorem NdB.set2 {w : World} {g : Nat} {a b c d e f h i : Value} (H : NdB w g a b c d e f h i) (u : Value) : NdB (w.setCell ⟨g, 2, none⟩ u) g a b u d e f h i := by unfold NdB at H ⊢; simp [World.setCell, Array.getElem?_modify, H]
theorem NdB.set7 {w : World} {g : Nat} {a b c d e f h i : Value} (H : NdB w g a b c d e f h i) (u : Value) : NdB (w.setCell ⟨g, 7, none⟩ u) g a b c d e f h u := by unfold NdB at H ⊢; simp [World.setCell, Array.getElem?_modify, H]
/-- Behind an append to a row whose block is another. -/
theorem NdB.app {w w' : World} {V : Value} {g : Nat} {a b c d e f h i : Value} (H : NdB w g a b c d e f h i) (hg : w.grownBy w' V.ownBlock) (hne : V.ownBlock ≠ some g) : NdB w' g a b c d e f h i := (hg.block g H.lt (fun e => hne e.symm)).trans H
/-- An untouched node's block, one that holds what is being made, and its row. -/
def zN (w : World) (g : Nat) : Prop := NdB w g (.int .i64 0) (.int .i64 0) (.string ⟨#[]⟩) (.int .i64 0) (.int .i64 0) (.string ⟨#[]⟩) (.slice none 0 0) (.slice none 0 0)

section
variable {P : Program} {ops : Array Oper} {o : Oper} {a : Act} {K : Act → World → Prop} {Q : Exit → Act → World → Prop} {E : Prop}
/-- append of nodes at a step of a region that draws. -/
theorem step_app_nodes {w : World} (hgd : o.guard = none) (s x : Operand) (T : TypeId)
    (ho : o.op = .call { callee := .builtin .append, args := #[s, x], argTypes := #[T, T] }) {i : TypeInfo} {z : Value}
    (ht : P.underlying T = some (.slice 31)) (hi : P.info? 31 = some i) (hz : i.zero = some z) (hsize : i.size = 8) (hby : i.bytes = 112) (hzs : z.cells.size = 8)
    {D : Nat → Prop} {V : Value} {l b : NL} (hs : a.eval s = V) (hV : OwnN w D V l) {A : Option Addr} {c m : Nat} (hx : a.eval x = .slice A m c) (hm : m = b.len) (hb : RpN w (SN w D V) b A) (hA : A = none → c = 0) (hl : l.len + b.len ≤ 1000000000000) (hn : D w.heap.size)
    (h : ∀ A' c' w', OwnN w' D (.slice A' (l.len + b.len) c') (l.app b) → w.grownBy w' V.ownBlock → ((Value.slice A' (l.len + b.len) c').ownBlock = V.ownBlock ∨ (Value.slice A' (l.len + b.len) c').ownBlock = some w.heap.size) → K (a.put o.dst (.slice A' (l.len + b.len) c')) w') :
    if Region.wanted o (yielded ops a.tmps) = true then Oper.wp P o a w K Q else E := by
  have hw : Region.wanted o (yielded ops a.tmps) = true := by simp [Region.wanted, hgd]
  rw [if_pos hw]
  subst hm
  obtain ⟨A', c', w', hrun, h2, h3, h4⟩ := run_app_nodes (ty := o.type) w ht hi hz hsize hby hzs hV hb hA hl hn
  unfold Oper.wp
  simp [execOp, ho, resolve, invoke, builtin, hs, hx, hrun, Result.andThen]
  exact h A' c' w' h2 h3 h4
/-- .. in a region that does not. -/
theorem wpList_app_nodes {w : World} {rest : List Oper} (hgd : o.guard = none) (s x : Operand) (T : TypeId)
    (ho : o.op = .call { callee := .builtin .append, args := #[s, x], argTypes := #[T, T] }) {i : TypeInfo} {z : Value}
    (ht : P.underlying T = some (.slice 31)) (hi : P.info? 31 = some i) (hz : i.zero = some z) (hsize : i.size = 8) (hby : i.bytes = 112) (hzs : z.cells.size = 8)
    {D : Nat → Prop} {V : Value} {l b : NL} (hs : a.eval s = V) (hV : OwnN w D V l) {A : Option Addr} {c m : Nat} (hx : a.eval x = .slice A m c) (hm : m = b.len) (hb : RpN w (SN w D V) b A) (hA : A = none → c = 0) (hl : l.len + b.len ≤ 1000000000000) (hn : D w.heap.size)
    (h : ∀ A' c' w', OwnN w' D (.slice A' (l.len + b.len) c') (l.app b) → w.grownBy w' V.ownBlock → ((Value.slice A' (l.len + b.len) c').ownBlock = V.ownBlock ∨ (Value.slice A' (l.len + b.len) c').ownBlock = some w.heap.size) → wpList P ops Q rest (a.put o.dst (.slice A' (l.len + b.len) c')) w') :
    wpList P ops Q (o :: rest) a w := by
  refine wpList_plain hgd fun K hK => ?_
  subst hm
  obtain ⟨A', c', w', hrun, h2, h3, h4⟩ := run_app_nodes (ty := o.type) w ht hi hz hsize hby hzs hV hb hA hl hn
  unfold Oper.wp
  simp [execOp, ho, resolve, invoke, builtin, hs, hx, hrun, Result.andThen]
  exact hK _ _ (h A' c' w' h2 h3 h4)
end
/-- One node laid anew, to be appended to a row whose block is older. -/
theorem one_rpn {w : World} {D Dx : Nat → Prop} {V Vx : Value} {sub : NL} (hx : OwnN w Dx Vx sub) (op ln : Int) (s : ByteArray) (k n : Int) (t : ByteArray) (va : Option Addr) (vc : Nat) (hDx : Dx w.heap.size) (hB : ∀ k, Dx k → D k) (hV : ∀ g, V.ownBlock = some g → ¬ Dx g) :
    RpN (w.alloc (.cells (nd8 op ln s k n t va vc Vx) 31)) (SN (w.alloc (.cells (nd8 op ln s k n t va vc Vx) 31)) D V) (nd op ln s k n t sub) (some ⟨w.heap.size, 0, none⟩) := by
  have h := OwnN.lit (hx.row1 op ln s k n t va vc) hDx (by show 1 ≤ _; decide)
  obtain ⟨A, c, e, _, _, hr⟩ := h.kids
  simp only [Value.slice.injEq] at e
  rw [← e.1] at hr
  exact hr.sn (fun k hk _ => hB k hk) hV

theorem only_set1 (w : World) (g k : Nat) (u : Value) : w.grownBy (w.setCell ⟨g, k, none⟩ u) (some g) := only_setCell (only_refl w _) (.inl rfl) u
theorem only_set8 (w : World) (g : Nat) (a b c d e f h i : Value) :
    w.grownBy ((((((((w.setCell ⟨g, 0, none⟩ a).setCell ⟨g, 1, none⟩ b).setCell ⟨g, 2, none⟩ c).setCell ⟨g, 3, none⟩ d).setCell ⟨g, 4, none⟩ e).setCell ⟨g, 5, none⟩ f).setCell ⟨g, 6, none⟩ h).setCell ⟨g, 7, none⟩ i) (some g) := by
  refine only_setCell ?_ (.inl rfl) i
  refine only_setCell ?_ (.inl rfl) h
  refine only_setCell ?_ (.inl rfl) f
  refine only_setCell ?_ (.inl rfl) e
  refine only_setCell ?_ (.inl rfl) d
  refine only_setCell ?_ (.inl rfl) c
  refine only_setCell ?_ (.inl rfl) b
  exact only_set1 w g 0 a
/-- A node's block written: the parser stands as it stood. -/
theorem Mvd.node {a w w' : World} {X : PCtx} {p : PS} {g : Nat} {c0 c1 c2 c3 c4 c5 c6 c7 : Value} (h : Mvd a w X p) (hN : NdB w g c0 c1 c2 c3 c4 c5 c6 c7) (hP : X.P < g) (hg : a.heap.size ≤ g) (hb : w.grownBy w' (some g)) : Mvd a w' X p := by
  refine ⟨h.st.keep (fun b hb' => hb.block b (by have := h.st.lt; omega) (fun e => by injection e with e; omega)) (fun A line _ hA => hb.block A (heap_lt hA) (fun e => ?_)) hb.size, ⟨hb.os.trans h.grown.os, hb.tape.trans h.grown.tape, hb.output.trans h.grown.output, Nat.le_trans h.grown.size hb.size, fun k hk hne => (hb.block k (Nat.lt_of_lt_of_le hk h.grown.size) (fun e => by injection e with e; omega)).trans (h.grown.block k hk hne)⟩⟩
  injection e with e
  subst e
  unfold NdB at hN
  rw [hA] at hN
  injection hN with hN
  injection hN with _ hN _
  exact absurd hN (by decide)
end Go.Proofs.YtggngahmafbihaaGreatDoor
namespace Go.Proofs.YtggngahmafbihaaGreatDoor
open Go.RowKit Go.Lib
set_option linter.unusedVariables false

theorem PNd.mk {X : PCtx} {D : Nat → Prop} {w w' : World} {p : PS} {f : Nat} {r : NL × PS} (op ln : Int) (s : ByteArray) (k n : Int) (t : ByteArray) (va : Option Addr) (vc : Nat) (V : Value) (sub : NL) (q : PS) (hr : r = (nd op ln s k n t sub, q)) (hm : Mvd w w' X q) (ho : OwnN w' D V sub) (hk : okN (nd op ln s k n t sub)) (hl : sub.len ≤ 2 * f + 10) (hd : q.deep = p.deep) :
    PNd X D w p f r (.returned (.agg #[.int .i64 op, .int .i64 ln, .string s, .int .i64 k, .int .i64 n, .string t, .slice va 0 vc, V])) w' := by
  subst hr; exact ⟨op, ln, s, k, n, t, va, vc, V, sub, rfl, rfl, hm, ho, hk, hl, hd⟩
theorem zN.new (w : World) : zN (w.alloc (.cells #[.int .i64 0, .int .i64 0, .string ⟨#[]⟩, .int .i64 0, .int .i64 0, .string ⟨#[]⟩, .slice none 0 0, .slice none 0 0] 31)) w.heap.size := NdB.new _ _ _ _ _ _ _ _ _
theorem zN.new1 (w : World) (o : Obj) : zN ((w.alloc o).alloc (.cells #[.int .i64 0, .int .i64 0, .string ⟨#[]⟩, .int .i64 0, .int .i64 0, .string ⟨#[]⟩, .slice none 0 0, .slice none 0 0] 31)) (w.heap.size + 1) := by
  have := zN.new (w.alloc o)
  rw [World.size_alloc] at this
  exact this
theorem okN_nd {op ln : Int} {s : ByteArray} {k n : Int} {t : ByteArray} {sub : NL} (h : okN sub) (hop : op = 20 ∨ op = 26 → sub.len ≠ 0) : okN (nd op ln s k n t sub) := ⟨hop, h, trivial⟩
theorem okN_leaf {op ln : Int} {s : ByteArray} {k n : Int} {t : ByteArray} (h20 : op ≠ 20) (h26 : op ≠ 26) : okN (nd op ln s k n t .nil) := okN_nd trivial (fun h => by rcases h with h | h <;> contradiction)
theorem len_nd (op ln : Int) (s : ByteArray) (k n : Int) (t : ByteArray) (sub : NL) : (nd op ln s k n t sub).len = 1 := rfl

section
variable {X : PCtx} {p : PS} {s : ByteArray} {w : World} {L : List UInt8}
theorem may_t (h : PSt w X p) (hL : L = s.data.toList) (hb : isS X.l p L = true) :
    Calls Tryz.prog 65 #[.pointer (some ⟨X.P, 0, none⟩), .string s] w fun e w' => e = .returned (.bool true) ∧ Mvd w w' X (nextS p) := by
  have := may_c X p s w h
  rw [← hL, hb] at this
  exact this
theorem may_f (h : PSt w X p) (hL : L = s.data.toList) (hb : isS X.l p L = false) :
    Calls Tryz.prog 65 #[.pointer (some ⟨X.P, 0, none⟩), .string s] w fun e w' => e = .returned (.bool false) ∧ Mvd w w' X p := by
  have := may_c X p s w h
  rw [← hL, hb] at this
  exact this
theorem is_t (h : PSt w X p) (hL : L = s.data.toList) (hb : isS X.l p L = true) :
    Calls Tryz.prog 57 #[.pointer (some ⟨X.P, 0, none⟩), .string s] w fun e w' => e = .returned (.bool true) ∧ Mvd w w' X p := by
  have := is_c X p s w h
  rw [← hL, hb] at this
  exact this.mono fun e w' ⟨h1, h2⟩ => ⟨h1, (Mvd.of h).below h2⟩
theorem is_f (h : PSt w X p) (hL : L = s.data.toList) (hb : isS X.l p L = false) :
    Calls Tryz.prog 57 #[.pointer (some ⟨X.P, 0, none⟩), .string s] w fun e w' => e = .returned (.bool false) ∧ Mvd w w' X p := by
  have := is_c X p s w h
  rw [← hL, hb] at this
  exact this.mono fun e w' ⟨h1, h2⟩ => ⟨h1, (Mvd.of h).below h2⟩
theorem down_t (h : PSt w X p) (h0 : 0 ≤ p.deep) (h1 : p.deep ≤ 160) (hb : (downS p).err.isNone = true) :
    Calls Tryz.prog 59 #[.pointer (some ⟨X.P, 0, none⟩)] w fun e w' => e = .returned (.bool true) ∧ Mvd w w' X (downS p) := by
  have := down_c X p w h h0 (by omega)
  rw [hb] at this
  exact this
theorem down_f (h : PSt w X p) (h0 : 0 ≤ p.deep) (h1 : p.deep ≤ 160) (hb : (downS p).err.isNone = false) :
    Calls Tryz.prog 59 #[.pointer (some ⟨X.P, 0, none⟩)] w fun e w' => e = .returned (.bool false) ∧ Mvd w w' X (downS p) := by
  have := down_c X p w h h0 (by omega)
  rw [hb] at this
  exact this
theorem must_t (h : PSt w X p) (hL : L = s.data.toList) :
    Calls Tryz.prog 66 #[.pointer (some ⟨X.P, 0, none⟩), .string s] w fun e w' => e = .returned (.tuple #[]) ∧ Mvd w w' X (mustS X.l p L) := by
  rw [hL]; exact must_c X p s w h
theorem line_t (h : PSt w X p) :
    Calls Tryz.prog 64 #[.pointer (some ⟨X.P, 0, none⟩)] w fun e w' => e = .returned (.int .i64 (lineS X.l p)) ∧ Mvd w w' X p :=
  (line_pc X p w h).mono fun e w' ⟨h1, h2⟩ => ⟨h1, (Mvd.of h).below h2⟩
end

/-- The blocks from one on, but for one. -/
def DG (b x : Nat) : Nat → Prop := fun k => b ≤ k ∧ k ≠ x
theorem DG.not {b x P : Nat} (h : P < b) : ¬ DG b x P := fun hd => absurd hd.1 (by omega)
/-- Behind an append to the row of a node that lies in a block of its own: the row stored there. -/
theorem app_end {a W w9 : World} {X : PCtx} {p : PS} {base addr : Nat} {V V' c0 c1 c2 c3 c4 c5 c6 : Value} {l b : NL} {o : Obj} (hm : Mvd a W X p) (hN : NdB W addr c0 c1 c2 c3 c4 c5 c6 V) (hV : OwnN W (DG base addr) V l) (hP : X.P < base) (ha : a.heap.size ≤ base) (hPa : X.P < addr) (haa : a.heap.size ≤ addr)
    (hown : OwnN w9 (DG base addr) V' b) (hg : (W.alloc o).grownBy w9 V.ownBlock) :
    Mvd a (w9.setCell ⟨addr, 7, none⟩ V') X p ∧ NdB (w9.setCell ⟨addr, 7, none⟩ V') addr c0 c1 c2 c3 c4 c5 c6 V' ∧ OwnN (w9.setCell ⟨addr, 7, none⟩ V') (DG base addr) V' b ∧ W.heap.size + 1 ≤ (w9.setCell ⟨addr, 7, none⟩ V').heap.size := by
  have hb : Below W.heap.size W (W.alloc o) := (Below.refl _ _).alloc (Nat.le_refl _) _
  have h1 : Mvd a w9 X p := (hm.alloc o).app (hV.below hb) (fun k hk => Nat.lt_of_lt_of_le hP hk.1) (fun k hk => Nat.le_trans ha hk.1) hg
  have h2 : NdB w9 addr c0 c1 c2 c3 c4 c5 c6 V := (hN.alloc o).app hg (fun e => (hV.ge addr e).1.2 rfl)
  have hz : W.heap.size + 1 ≤ w9.heap.size := by have := hg.size; simp at this; omega
  exact ⟨h1.node h2 hPa haa (only_set1 _ _ _ _), h2.set7 V', hown.keep (fun k hk _ => Below.heap_setCell _ _ _ _ (by show k ≠ addr; exact hk.2)) (by rw [size_set]; exact Nat.le_refl _), by rw [size_set]; exact hz⟩
theorem app_other {W w9 : World} {base addr g : Nat} {V V' c0 c1 c2 c3 c4 c5 c6 c7 : Value} {l : NL} {o : Obj} (hN : NdB W g c0 c1 c2 c3 c4 c5 c6 c7) (hV : OwnN W (DG base addr) V l) (hgb : g < base) (hga : g ≠ addr) (hg : (W.alloc o).grownBy w9 V.ownBlock) : NdB (w9.setCell ⟨addr, 7, none⟩ V') g c0 c1 c2 c3 c4 c5 c6 c7 :=
  ((hN.alloc o).app hg (fun e => absurd (hV.ge g e).1.1 (by omega))).far (by show g ≠ addr; exact hga) _
/-- What is wanted at the append itself. -/
theorem app_at {W : World} {base addr B : Nat} {V Vx : Value} {l sub : NL} (hV : OwnN W (DG base addr) V l) (hx : OwnN W (fun k => B ≤ k) Vx sub) (op ln : Int) (s : ByteArray) (k n : Int) (t : ByteArray) (va : Option Addr) (vc : Nat) (hB : base ≤ B) (ha : addr < B) (hW : B ≤ W.heap.size) (hVB : ∀ g, V.ownBlock = some g → g < B) :
    OwnN (W.alloc (.cells (nd8 op ln s k n t va vc Vx) 31)) (DG base addr) V l ∧
    RpN (W.alloc (.cells (nd8 op ln s k n t va vc Vx) 31)) (SN (W.alloc (.cells (nd8 op ln s k n t va vc Vx) 31)) (DG base addr) V) (nd op ln s k n t sub) (some ⟨W.heap.size, 0, none⟩) :=
  ⟨hV.below ((Below.refl _ _).alloc (Nat.le_refl _) _), one_rpn hx op ln s k n t va vc hW (fun k (hk : B ≤ k) => ⟨by omega, by omega⟩) (fun g hg (hk : B ≤ g) => by have := hVB g hg; omega)⟩
/-- A row handed out behind a store to another block. -/
theorem own_end {W W' : World} {b x g w0 : Nat} {V : Value} {l : NL} (h : OwnN W (DG b x) V l) (hb : g < b) (hw : W.grownBy W' (some g)) (hge : w0 ≤ b) : OwnN W' (fun k => w0 ≤ k) V l :=
  (h.keep (fun k hk hk2 => hw.block k hk2 (fun e => by injection e with e; have := hk.1; omega)) hw.size).wide (fun k hk _ => Nat.le_trans hge hk.1)
/-- A row of one node, and a node that has it, laid one behind the other. -/
theorem lay_one {a W W' : World} {X : PCtx} {p : PS} {D : Nat → Prop} {V : Value} {sub : NL} (hm : Mvd a W X p) (ho : OwnN W D V sub) (op ln : Int) (s : ByteArray) (k n : Int) (t : ByteArray) (va : Option Addr) (vc : Nat) (op2 ln2 : Int) (hD : D W.heap.size)
    (hW : W' = (W.alloc (.cells (nd8 op ln s k n t va vc V) 31)).alloc (.cells #[.int .i64 op2, .int .i64 ln2, .string ⟨#[]⟩, .int .i64 0, .int .i64 0, .string ⟨#[]⟩, .slice none 0 0, .slice (some ⟨W.heap.size, 0, none⟩) 1 1] 31)) :
    Mvd a W' X p ∧ NdB W' (W.heap.size + 1) (.int .i64 op2) (.int .i64 ln2) (.string ⟨#[]⟩) (.int .i64 0) (.int .i64 0) (.string ⟨#[]⟩) (.slice none 0 0) (.slice (some ⟨W.heap.size, 0, none⟩) 1 1) ∧
      OwnN W' D (.slice (some ⟨W.heap.size, 0, none⟩) 1 1) (nd op ln s k n t sub) ∧ W'.heap.size = W.heap.size + 2 ∧ Below W.heap.size W W' := by
  have hl := OwnN.lit (ho.row1 op ln s k n t va vc) hD (by show 1 ≤ _; decide)
  have hb1 : Below W.heap.size W (W.alloc (.cells (nd8 op ln s k n t va vc V) 31)) := (Below.refl _ _).alloc (Nat.le_refl _) _
  have hn := NdB.new (W.alloc (.cells (nd8 op ln s k n t va vc V) 31)) (.int .i64 op2) (.int .i64 ln2) (.string ⟨#[]⟩) (.int .i64 0) (.int .i64 0) (.string ⟨#[]⟩) (.slice none 0 0) (.slice (some ⟨W.heap.size, 0, none⟩) 1 1)
  rw [World.size_alloc] at hn
  subst hW
  exact ⟨(hm.alloc _).alloc _, hn, hl.below ((Below.refl _ _).alloc (Nat.le_refl _) _), by simp, hb1.alloc (by simp) _⟩
/-- What stands behind `n.L = append(n.L, ..)`, n in a block of its own: the row has grown; the other nodes' blocks below the row's are as they were. -/
def AppR (X : PCtx) (a W0 : World) (q : PS) (base addr : Nat) (c0 c1 c2 c3 c4 c5 c6 : Value) (l x : NL) (m : Nat) (d : Int) (wx : World) : Prop :=
  ∃ V', Mvd a wx X q ∧ q.deep = d ∧ NdB wx addr c0 c1 c2 c3 c4 c5 c6 V' ∧ OwnN wx (DG base addr) V' (l.app x) ∧ x.len ≤ m ∧ okN x ∧ W0.heap.size < wx.heap.size ∧
    ∀ (g : Nat) (d0 d1 d2 d3 d4 d5 d6 d7 : Value), g < base → g ≠ addr → X.P < g → NdB W0 g d0 d1 d2 d3 d4 d5 d6 d7 → NdB wx g d0 d1 d2 d3 d4 d5 d6 d7
theorem app_rel {a W0 W w9 : World} {X : PCtx} {q : PS} {base addr m : Nat} {V V' c0 c1 c2 c3 c4 c5 c6 : Value} {l x : NL} {o : Obj} (hW : W0.grownBy W (some X.P)) (hm : Mvd a W X q) (hN : NdB W addr c0 c1 c2 c3 c4 c5 c6 V) (hV : OwnN W (DG base addr) V l) (hP : X.P < base) (ha : a.heap.size ≤ base) (hPa : X.P < addr) (haa : a.heap.size ≤ addr)
    (hown : OwnN w9 (DG base addr) V' (l.app x)) (hg : (W.alloc o).grownBy w9 V.ownBlock) (hx : x.len ≤ m) (hk : okN x) {d : Int} (hd : q.deep = d) : AppR X a W0 q base addr c0 c1 c2 c3 c4 c5 c6 l x m d (w9.setCell ⟨addr, 7, none⟩ V') := by
  obtain ⟨h1, h2, h3, h4⟩ := app_end hm hN hV hP ha hPa haa hown hg
  have hz := hW.size
  exact ⟨V', h1, hd, h2, h3, hx, hk, by omega, fun g d0 d1 d2 d3 d4 d5 d6 d7 hgb hga hgP hN0 => app_other (hN0.grown hW hgP) hV hgb hga hg⟩
theorem NdB.apart {w w' : World} {g g' : Nat} {a b c d e f h i : Value} (H : NdB w g a b c d e f h i) (hg : w.grownBy w' (some g')) (hne : g ≠ g') : NdB w' g a b c d e f h i := (hg.block g H.lt (fun e => by injection e with e; exact hne e)).trans H
theorem OwnN.apart {w w' : World} {b x g : Nat} {V : Value} {l : NL} (h : OwnN w (DG b x) V l) (hg : w.grownBy w' (some g)) (hne : g < b ∨ g = x) : OwnN w' (DG b x) V l :=
  h.keep (fun k hk hk2 => hg.block k hk2 (fun e => by injection e with e; have h1 := hk.1; have h2 := hk.2; omega)) hg.size
theorem PNl.mk {X : PCtx} {D : Nat → Prop} {w w' : World} {p : PS} {f : Nat} {r : NL × PS} (V : Value) (l : NL) (q : PS) (hr : r = (l, q)) (hm : Mvd w w' X q) (ho : OwnN w' D V l) (hk : okN l) (hl : l.len ≤ 2 * f + 2) (hd : q.deep = p.deep) : PNl X D w p f r (.returned V) w' := by
  subst hr; exact ⟨V, rfl, hm, ho, hk, hl, hd⟩
theorem targetS_nd {op ln : Int} {s : ByteArray} {k n : Int} {t : ByteArray} {sub : NL} {o : Int} {tl : NL} (h : targetS (nd op ln s k n t sub) = some (o, tl)) : (o = 27 ∧ tl = nd op ln s k n t sub) ∨ (o = 28 ∧ tl = sub) := by
  unfold targetS at h
  split at h
  · injection h with h; injection h with h1 h2; exact .inl ⟨h1.symm, h2.symm⟩
  · split at h
    · injection h with h; injection h with h1 h2; exact .inr ⟨h1.symm, h2.symm⟩
    · cases h
theorem okN_kids {op ln : Int} {s : ByteArray} {k n : Int} {t : ByteArray} {sub : NL} (h : okN (nd op ln s k n t sub)) : okN sub := h.2.1
/-- What is wanted at an append to a row that lies in no node. -/
theorem app_at0 {W : World} {base x0 B : Nat} {V Vx : Value} {l sub : NL} {x1 : Nat} (hV : OwnN W (DG base x0) V l) (hx : OwnN W (DG B x1) Vx sub) (op ln : Int) (s : ByteArray) (k n : Int) (t : ByteArray) (va : Option Addr) (vc : Nat) (hB : base ≤ B) (h0 : x0 < B) (hW : B ≤ W.heap.size) (h1 : x1 < B) (hVB : ∀ g, V.ownBlock = some g → g < B) :
    OwnN (W.alloc (.cells (nd8 op ln s k n t va vc Vx) 31)) (DG base x0) V l ∧
    RpN (W.alloc (.cells (nd8 op ln s k n t va vc Vx) 31)) (SN (W.alloc (.cells (nd8 op ln s k n t va vc Vx) 31)) (DG base x0) V) (nd op ln s k n t sub) (some ⟨W.heap.size, 0, none⟩) :=
  ⟨hV.below ((Below.refl _ _).alloc (Nat.le_refl _) _), one_rpn hx op ln s k n t va vc ⟨hW, by omega⟩ (fun k hk => ⟨by have := hk.1; omega, by have := hk.1; omega⟩) (fun g hg hk => by have := hVB g hg; have := hk.1; omega)⟩
/-- Behind an append to such a row. -/
theorem app_end0 {a W w9 : World} {X : PCtx} {p : PS} {base x0 : Nat} {V : Value} {l : NL} {o : Obj} (hm : Mvd a W X p) (hV : OwnN W (DG base x0) V l) (hP : X.P < base) (ha : a.heap.size ≤ base) (hg : (W.alloc o).grownBy w9 V.ownBlock) :
    Mvd a w9 X p ∧ W.heap.size + 1 ≤ w9.heap.size ∧ ∀ (g : Nat) (d0 d1 d2 d3 d4 d5 d6 d7 : Value), g < base ∨ g = x0 → NdB W g d0 d1 d2 d3 d4 d5 d6 d7 → NdB w9 g d0 d1 d2 d3 d4 d5 d6 d7 := by
  have hb : Below W.heap.size W (W.alloc o) := (Below.refl _ _).alloc (Nat.le_refl _) _
  refine ⟨(hm.alloc o).app (hV.below hb) (fun k hk => Nat.lt_of_lt_of_le hP hk.1) (fun k hk => Nat.le_trans ha hk.1) hg, ?_, fun g d0 d1 d2 d3 d4 d5 d6 d7 hgb hN => (hN.alloc o).app hg (fun e => by have h := (hV.ge g e).1; have h1 := h.1; have h2 := h.2; omega)⟩
  have := hg.size; simp at this; omega
end Go.Proofs.YtggngahmafbihaaGreatDoor
