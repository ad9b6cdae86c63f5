/-
  lit's reader: what a value's walk is to show; small contracts; the reader's list.
-/
import Derived.Test.YtoemnccklakkeaaDoorRdH
import Derived.Maps.AppendAt
import Derived.Laws.ResultCell
namespace Go.Proofs.YtoemnccklakkeaaDoor
open Go.RowKit Go.Lib

/-- The cells of a list of values, their items in memory. -/
def CellsOf (w : World) (S : Nat → Prop) : VL → List Value → Prop
  | .nil, xs => xs = []
  | .cons k n s sub rest, xs => ∃ (sa : Option Addr) (sc : Nat) (ys : List Value), xs = .int .i64 k :: .int .i64 n :: .string s :: .slice sa sub.len sc :: ys ∧ sub.len ≤ sc ∧ RpL w S sub sa ∧ CellsOf w S rest ys

theorem CellsOf.keep {w w' : World} {S S' : Nat → Prop} (hw : ∀ b, S b → w'.heap[b]? = w.heap[b]?) (hS : ∀ b, S b → S' b) : ∀ (l : VL) (xs : List Value), CellsOf w S l xs → CellsOf w' S' l xs
  | .nil, _, h => h
  | .cons _ _ _ sub rest, _, ⟨sa, sc, ys, hx, hc, hs, hr⟩ => ⟨sa, sc, ys, hx, hc, RpL.keep hw hS sub sa hs, CellsOf.keep hw hS rest ys hr⟩
theorem CellsOf.length {w : World} {S : Nat → Prop} : ∀ (l : VL) (xs : List Value), CellsOf w S l xs → xs.length = l.len * 4
  | .nil, _, h => by have : _ = [] := h; subst this; rfl
  | .cons _ _ _ sub rest, _, ⟨sa, sc, ys, hx, hc, hs, hr⟩ => by
    subst hx
    have := CellsOf.length rest ys hr
    simp only [List.length_cons, VL.len]; omega
theorem CellsOf.one {w : World} {S : Nat → Prop} : ∀ (l : VL) (xs : List Value), CellsOf w S l xs → ∀ u ∈ xs, u.oneCell' = true
  | .nil, _, h => by have : _ = [] := h; subst this; simp
  | .cons _ _ _ sub rest, _, ⟨sa, sc, ys, hx, hc, hs, hr⟩ => by
    subst hx
    intro u hu
    simp only [List.mem_cons] at hu
    rcases hu with rfl | rfl | rfl | rfl | hu
    · rfl
    · rfl
    · rfl
    · rfl
    · exact CellsOf.one rest ys hr u hu
theorem CellsOf.app {w : World} {S : Nat → Prop} : ∀ (l m : VL) (xs ys : List Value), CellsOf w S l xs → CellsOf w S m ys → CellsOf w S (l.app m) (xs ++ ys)
  | .nil, m, xs, ys, h, h2 => by have : xs = [] := h; subst this; exact h2
  | .cons _ _ _ sub rest, m, _, ys, ⟨sa, sc, zs, hx, hc, hs, hr⟩, h2 => by
    subst hx
    exact ⟨sa, sc, zs ++ ys, rfl, hc, hs, CellsOf.app rest m zs ys hr h2⟩
/-- Such cells, laid in a block of the sort, are the list in memory. -/
theorem CellsOf.rep {w : World} {S : Nat → Prop} {g : Nat} (hg : S g) : ∀ (l : VL) (xs : List Value) (o : Nat), CellsOf w S l xs → (∀ j u, xs[j]? = some u → w.cell? ⟨g, o + j, none⟩ = some u) → RpL w S l (some ⟨g, o, none⟩)
  | .nil, _, _, _, _ => trivial
  | .cons k n s sub rest, _, o, ⟨sa, sc, ys, hx, hc, hs, hr⟩, hcell => by
    subst hx
    exact ⟨g, o, sa, sc, rfl, hg, hcell 0 _ rfl, hcell 1 _ rfl, hcell 2 _ rfl, hcell 3 _ rfl, hc, hs,
      CellsOf.rep hg rest ys (o + 4) hr (fun j u hj => by rw [show o + 4 + j = o + (j + 4) from by omega]; exact hcell (j + 4) u hj)⟩

/-- What a row that the call owns reads as. -/
theorem own_rep {w : World} {base : Nat} {v : Value} {l : VL} {xs : List Value} {S : Nat → Prop} (h : w.ownsRow base 31 4 v l.len xs) (hc : CellsOf w S l xs) (hS : ∀ g, v.ownBlock = some g → S g) :
    ∃ (sa : Option Addr) (sc : Nat), v = .slice sa l.len sc ∧ l.len ≤ sc ∧ RpL w S l sa := by
  rcases h.2 with ⟨rfl, hl⟩ | ⟨g, cap, cur, rfl, _, hh, hcap, _, hsz, ht⟩
  · rw [hl]
    refine ⟨none, 0, rfl, Nat.le_refl _, ?_⟩
    cases l with
    | nil => trivial
    | cons => simp [VL.len] at hl
  · refine ⟨some ⟨g, 0, none⟩, cap, rfl, hcap, CellsOf.rep (hS g rfl) l xs 0 hc (fun j u hj => ?_)⟩
    rw [Nat.zero_add, cell_of_row w g j cur _ _ hh, ← Array.getElem?_toList]
    have hlen := CellsOf.length l xs hc
    have hjl : j < xs.length := (List.getElem?_eq_some_iff.1 hj).1
    rw [← ht, List.getElem?_take_of_lt (by omega)] at hj
    exact hj

/-- What a call of the reader's value is to show. -/
def PVal (w : World) (R : Nat) (s : ByteArray) (r : Nat × Bool × VL) (e : Ending) (w' : World) : Prop :=
  ∃ (k n : Int) (t : ByteArray) (sa : Option Addr) (l sc : Nat), e = .returned (.agg #[.int .i64 k, .int .i64 n, .string t, .slice sa l sc]) ∧ Rds w w' R s r.1 r.2.1 ∧
    (r.2.1 = true → ∃ sub : VL, r.2.2 = val1 k n t sub ∧ l = sub.len ∧ sub.len ≤ sc ∧ RpL w' (fun b => w.heap.size ≤ b ∧ b < w'.heap.size) sub sa)

def ValC (f : Nat) : Prop := ∀ (R : Nat) (s : ByteArray) (i : Nat) (w : World), RdAt w R s i true → s.size ≤ 1000000000 → i ≤ s.size → 2 * (s.size - i) + 2 ≤ f →
  Calls Tryd.prog 39 #[.pointer (some ⟨R, 0, none⟩)] w (PVal w R s (valSp s f i))

theorem valI_c (n : Int) (w : World) : Calls Tryd.prog 34 #[.int .i64 n] w fun e w' => e = .returned (.agg #[.int .i64 0, .int .i64 n, .string ⟨#[]⟩, .slice none 0 0]) ∧ w.alloc (.cells #[.int .i64 0, .int .i64 n, .string ⟨#[]⟩, .slice none 0 0] 31) = w' := by
  go_enter Tryd.func34, Tryd.ntmps34
  go_wp2
  go_returns
  exact ⟨rfl, rfl⟩
theorem valO_c (n : Int) (w : World) : Calls Tryd.prog 58 #[.int .i64 n] w fun e w' => e = .returned (.agg #[.int .i64 1, .int .i64 n, .string ⟨#[]⟩, .slice none 0 0]) ∧ w.alloc (.cells #[.int .i64 1, .int .i64 n, .string ⟨#[]⟩, .slice none 0 0] 31) = w' := by
  go_enter Tryd.func58, Tryd.ntmps58
  go_wp2
  go_returns
  exact ⟨rfl, rfl⟩
theorem valE_c (n : Int) (w : World) : Calls Tryd.prog 63 #[.int .i64 n] w fun e w' => e = .returned (.agg #[.int .i64 3, .int .i64 n, .string ⟨#[]⟩, .slice none 0 0]) ∧ w.alloc (.cells #[.int .i64 3, .int .i64 n, .string ⟨#[]⟩, .slice none 0 0] 31) = w' := by
  go_enter Tryd.func63, Tryd.ntmps63
  go_wp2
  go_returns
  exact ⟨rfl, rfl⟩
theorem valS_c (t : ByteArray) (w : World) : Calls Tryd.prog 27 #[.string t] w fun e w' => e = .returned (.agg #[.int .i64 2, .int .i64 0, .string t, .slice none 0 0]) ∧ w.alloc (.cells #[.int .i64 2, .int .i64 0, .string t, .slice none 0 0] 31) = w' := by
  go_enter Tryd.func27, Tryd.ntmps27
  go_wp2
  go_returns
  exact ⟨rfl, rfl⟩

/-- A struct of four cells in a block of its own. -/
def StB (w : World) (g : Nat) (a b c d : Value) : Prop := w.heap[g]? = some (.cells #[a, b, c, d] 31 (0, 0))
section
variable {w w' : World} {g : Nat} {a b c d : Value}
theorem StB.lt (h : StB w g a b c d) : g < w.heap.size := by
  rcases Nat.lt_or_ge g w.heap.size with hlt | hge
  · exact hlt
  · unfold StB at h; rw [Array.getElem?_eq_none hge] at h; cases h
theorem StB.c0 (h : StB w g a b c d) : w.cell? ⟨g, 0, none⟩ = some a := cell_of_row w g 0 _ _ _ h
theorem StB.c1 (h : StB w g a b c d) : w.cell? ⟨g, 1, none⟩ = some b := cell_of_row w g 1 _ _ _ h
theorem StB.c2 (h : StB w g a b c d) : w.cell? ⟨g, 2, none⟩ = some c := cell_of_row w g 2 _ _ _ h
theorem StB.c3 (h : StB w g a b c d) : w.cell? ⟨g, 3, none⟩ = some d := cell_of_row w g 3 _ _ _ h
theorem StB.fr (h : StB w g a b c d) (k : Nat) : w.frozen? ⟨g, k, none⟩ = false := by unfold StB at h; simp [World.frozen?, h]
theorem StB.new (w : World) (a b c d : Value) : StB (w.alloc (.cells #[a, b, c, d] 31)) w.heap.size a b c d := by
  unfold StB World.alloc; simp
theorem StB.alloc (h : StB w g a b c d) (o : Obj) : StB (w.alloc o) g a b c d := (Below.heap_alloc w o g h.lt).trans h
theorem StB.set3 (h : StB w g a b c d) (u : Value) : StB (w.setCell ⟨g, 3, none⟩ u) g a b c u := by
  unfold StB at h ⊢; simp [World.setCell, Array.getElem?_modify, h]
theorem StB.far (h : StB w g a b c d) {p : Addr} (hp : g ≠ p.block) (u : Value) : StB (w.setCell p u) g a b c d := (Below.heap_setCell w p u g hp).trans h
theorem StB.only (h : StB w g a b c d) {row : Option Nat} (hg : w.grownBy w' row) (hr : some g ≠ row) : StB w' g a b c d := (hg.block g h.lt hr).trans h
theorem StB.drewN (h : StB w g a b c d) (n : Nat) : StB (w.drewN n) g a b c d := h
end

theorem StB.set4 {w : World} {g : Nat} {a b c d : Value} (h : StB w g a b c d) (a' b' c' d' : Value) :
    StB ((((w.setCell ⟨g, 0, none⟩ a').setCell ⟨g, 1, none⟩ b').setCell ⟨g, 2, none⟩ c').setCell ⟨g, 3, none⟩ d') g a' b' c' d' := by
  unfold StB at h ⊢; simp [World.setCell, Array.getElem?_modify, h]

/-- A struct of four cells handed back out of its block. -/
theorem results_cell4 {fn : Func} {p : Tmp} (h : fn.results = #[.cell p 31]) (tmps : Array Value) (w : World) (g : Nat) (hp : tmps.getD p undef = .pointer (some ⟨g, 0, none⟩)) {a b c d : Value} (hS : StB w g a b c d) :
    (results fn tmps).run Tryd.prog w = .ok (.agg #[a, b, c, d]) w := by
  have c0 := hS.c0
  have c1 := hS.c1
  have c2 := hS.c2
  have c3 := hS.c3
  have hp' : (tmps[p]?).getD undef = .pointer (some ⟨g, 0, none⟩) := by simpa using hp
  simp [results, h, hp', go_sem, c0, c1, c2, c3]
theorem ret_cell4 {fn : Func} {p : Tmp} {Q : Ending → World → Prop} {act : Act} {w : World} (h : fn.results = #[.cell p 31]) (g : Nat) (hp : act.tmps.getD p undef = .pointer (some ⟨g, 0, none⟩)) (hd : act.defers = [])
    {a b c d : Value} (hS : StB w g a b c d) (hQ : Q (.returned (.agg #[a, b, c, d])) w) : bodyPost Tryd.prog fn Q .ret act w :=
  bodyPost_ret (results_cell4 h act.tmps w g hp hS) hd hQ

theorem val_info : (Tryd.prog.info? 31).map (fun i => (i.zero, i.size, i.bytes)) = some (some (.agg #[.int .i64 0, .int .i64 0, .string ⟨#[]⟩, .slice none 0 0]), 4, 56) := by kernel_rfl

theorem Rds.far {w1 w2 : World} {R : Nat} {s : ByteArray} {i : Nat} {ok : Bool} (h : Rds w1 w2 R s i ok) {p : Addr} (hp : w1.heap.size ≤ p.block) (hR : R < w1.heap.size) (u : Value) : Rds w1 (w2.setCell p u) R s i ok :=
  ⟨(Below.heap_setCell w2 p u R (by omega)).trans h.at_, only_setCell h.grown (.inr hp) u⟩
theorem Rds.far4 {w1 w2 : World} {R : Nat} {s : ByteArray} {i : Nat} {ok : Bool} (h : Rds w1 w2 R s i ok) {g : Nat} (hp : w1.heap.size ≤ g) (hR : R < w1.heap.size) (a b c d : Value) :
    Rds w1 ((((w2.setCell ⟨g, 0, none⟩ a).setCell ⟨g, 1, none⟩ b).setCell ⟨g, 2, none⟩ c).setCell ⟨g, 3, none⟩ d) R s i ok :=
  (((h.far (p := ⟨g, 0, none⟩) hp hR a).far (p := ⟨g, 1, none⟩) hp hR b).far (p := ⟨g, 2, none⟩) hp hR c).far (p := ⟨g, 3, none⟩) hp hR d

/-- What the reader's list reads, at a place where a bracket opens. -/
def brSp (s : ByteArray) (f i : Nat) : Nat × Bool × VL :=
  if pk s (i + 1) = 125 then (i + 2, true, val1 4 0 ByteArray.empty .nil)
  else ((lstSp s f (i + 1) .nil).1, (lstSp s f (i + 1) .nil).2.1, val1 4 0 ByteArray.empty (lstSp s f (i + 1) .nil).2.2)

theorem own_form {W : World} {base e size n : Nat} {v : Value} {xs : List Value} (h : W.ownsRow base e size v n xs) : ∃ (A : Option Addr) (C : Nat), v = .slice A n C := by
  rcases h.2 with ⟨rfl, hn⟩ | ⟨g, cap, cur, rfl, _⟩
  · subst hn; exact ⟨none, 0, rfl⟩
  · exact ⟨some ⟨g, 0, none⟩, cap, rfl⟩

theorem heap_set4 (w : World) (g : Nat) (a b c d : Value) (k : Nat) (h : k ≠ g) : ((((w.setCell ⟨g, 0, none⟩ a).setCell ⟨g, 1, none⟩ b).setCell ⟨g, 2, none⟩ c).setCell ⟨g, 3, none⟩ d).heap[k]? = w.heap[k]? := by
  rw [Below.heap_setCell _ _ _ _ h, Below.heap_setCell _ _ _ _ h, Below.heap_setCell _ _ _ _ h, Below.heap_setCell _ _ _ _ h]
theorem size_set4 (w : World) (g : Nat) (a b c d : Value) : ((((w.setCell ⟨g, 0, none⟩ a).setCell ⟨g, 1, none⟩ b).setCell ⟨g, 2, none⟩ c).setCell ⟨g, 3, none⟩ d).heap.size = w.heap.size := by simp [World.setCell]

/-- What holds at the head of the list's loop. -/
structure LInv (w wr : World) (R : Nat) (s : ByteArray) (j : Nat) (V : Value) (acc : VL) (xs : List Value) : Prop where
  rds : Rds w wr R s j true
  b2 : StB wr w.heap.size (.int .i64 0) (.int .i64 0) (.string ⟨#[]⟩) (.slice none 0 0)
  b3 : StB wr (w.heap.size + 1) (.int .i64 4) (.int .i64 0) (.string ⟨#[]⟩) V
  own : wr.ownsRow (w.heap.size + 2) 31 4 V acc.len xs
  cells : CellsOf wr (fun b => w.heap.size + 2 ≤ b ∧ b < wr.heap.size ∧ V.ownBlock ≠ some b) acc xs
  size : w.heap.size + 2 ≤ wr.heap.size

theorem own_lt {W : World} {base e size n : Nat} {v : Value} {xs : List Value} (h : W.ownsRow base e size v n xs) (k : Nat) (hk : v.ownBlock = some k) : k < W.heap.size := by
  rcases h.2 with ⟨rfl, _⟩ | ⟨g, cap, cur, rfl, hb, hh, _⟩
  · cases hk
  · injection hk with hk
    subst hk
    rcases Nat.lt_or_ge g W.heap.size with hlt | hge
    · exact hlt
    · rw [Array.getElem?_eq_none hge] at hh; cases hh

theorem LInv.move {w wr wr' : World} {R : Nat} {s : ByteArray} {j j' : Nat} {V : Value} {acc : VL} {xs : List Value} (h : LInv w wr R s j V acc xs) {ok : Bool} (hr : Rds wr wr' R s j' ok) (hR : R < w.heap.size) :
    StB wr' w.heap.size (.int .i64 0) (.int .i64 0) (.string ⟨#[]⟩) (.slice none 0 0) ∧ StB wr' (w.heap.size + 1) (.int .i64 4) (.int .i64 0) (.string ⟨#[]⟩) V ∧ wr'.ownsRow (w.heap.size + 2) 31 4 V acc.len xs ∧
      CellsOf wr' (fun b => w.heap.size + 2 ≤ b ∧ b < wr'.heap.size ∧ V.ownBlock ≠ some b) acc xs ∧ w.heap.size + 2 ≤ wr'.heap.size :=
  ⟨h.b2.only hr.grown (fun e => by injection e with e; omega), h.b3.only hr.grown (fun e => by injection e with e; omega), own_keep h.own hr.grown (by omega),
   h.cells.keep (fun b hb => hr.grown.block b hb.2.1 (fun e => by injection e with e; omega)) (fun b hb => ⟨hb.1, Nat.lt_of_lt_of_le hb.2.1 hr.grown.size, hb.2.2⟩), Nat.le_trans h.size hr.grown.size⟩
theorem LInv.ok {w wr wr' : World} {R : Nat} {s : ByteArray} {j j' : Nat} {V : Value} {acc : VL} {xs : List Value} (h : LInv w wr R s j V acc xs) (hr : Rds wr wr' R s j' true) (hR : R < w.heap.size) : LInv w wr' R s j' V acc xs :=
  ⟨h.rds.trans hr, (h.move hr hR).1, (h.move hr hR).2.1, (h.move hr hR).2.2.1, (h.move hr hR).2.2.2.1, (h.move hr hR).2.2.2.2⟩

theorem cell_four_new (w : World) (B : Nat) (hB : B = w.heap.size) (a b c d : Value) (t : TypeId) : ∀ j u, [a, b, c, d][j]? = some u → (w.alloc (.cells #[a, b, c, d] t)).cell? ((⟨B, 0, none⟩ : Addr).add j) = some u := by
  subst hB
  intro j u hj
  have e : (⟨w.heap.size, 0, none⟩ : Addr).add j = ⟨w.heap.size, j, none⟩ := by unfold Addr.add; split <;> simp_all
  rw [e, World.cell?_alloc_at _ _ _ _ rfl]
  simpa using hj

theorem LInv.grow {w wr w3 w5 : World} {R : Nat} {s : ByteArray} {j q : Nat} {V : Value} {acc : VL} {xs : List Value} (h : LInv w wr R s j V acc xs) (hr : Rds wr w3 R s q true) (hR : R < w.heap.size) {o1 o2 : Obj}
    (hg : ((w3.alloc o1).alloc o2).grownBy w5 V.ownBlock) : StB w5 (w.heap.size + 1) (.int .i64 4) (.int .i64 0) (.string ⟨#[]⟩) V := by
  obtain ⟨_, m3, _, _, _⟩ := h.move hr hR
  have hlt := m3.lt
  have hsz : ((w3.alloc o1).alloc o2).heap.size = w3.heap.size + 2 := by simp
  have h1 := hg.block (w.heap.size + 1) (by omega) (fun e => by have := own_ge h.own _ e.symm; omega)
  exact (h1.trans ((Below.heap_alloc _ _ _ (by simp; omega)).trans (Below.heap_alloc _ _ _ hlt))).trans m3

theorem LInv.step {w wr w3 w5 : World} {R : Nat} {s : ByteArray} {j q : Nat} {V V' : Value} {acc : VL} {xs : List Value} (h : LInv w wr R s j V acc xs) (hr : Rds wr w3 R s q true) (hR : R < w.heap.size)
    {k n : Int} {t : ByteArray} {sub : VL} {sa : Option Addr} {sc : Nat} (hsc : sub.len ≤ sc) (hrep : RpL w3 (fun b => wr.heap.size ≤ b ∧ b < w3.heap.size) sub sa) {o1 o2 : Obj}
    (hown : w5.ownsRow (w.heap.size + 2) 31 4 V' (acc.len + 1) (xs ++ [.int .i64 k, .int .i64 n, .string t, .slice sa sub.len sc])) (hg : ((w3.alloc o1).alloc o2).grownBy w5 V.ownBlock)
    (hob : V'.ownBlock = V.ownBlock ∨ V'.ownBlock = some ((w3.alloc o1).alloc o2).heap.size) :
    LInv w (w5.setCell ⟨w.heap.size + 1, 3, none⟩ V') R s q V' (acc.app (val1 k n t sub)) (xs ++ [.int .i64 k, .int .i64 n, .string t, .slice sa sub.len sc]) := by
  obtain ⟨m2, m3, mo, mc, mz⟩ := h.move hr hR
  have hVg : ∀ g, V.ownBlock = some g → w.heap.size + 2 ≤ g ∧ g < wr.heap.size := fun g hg => ⟨own_ge h.own g hg, own_lt h.own g hg⟩
  have hsz : ((w3.alloc o1).alloc o2).heap.size = w3.heap.size + 2 := by simp
  have hz5 : w3.heap.size + 2 ≤ w5.heap.size := by have := hg.size; omega
  have hz3 := hr.grown.size
  have blk : ∀ b, b < w3.heap.size → V.ownBlock ≠ some b → w5.heap[b]? = w3.heap[b]? := fun b hb hne => by
    have h1 := hg.block b (by omega) (fun e => hne e.symm)
    rw [h1, Below.heap_alloc _ _ _ (by simp; omega), Below.heap_alloc _ _ _ hb]
  have hV'b : ∀ b, b < w3.heap.size → V.ownBlock ≠ some b → V'.ownBlock ≠ some b := fun b hb hne e => by
    rcases hob with e2 | e2
    · exact hne (e2.symm.trans e)
    · rw [e] at e2
      injection e2 with e2
      omega
  have hb2ne : V.ownBlock ≠ some w.heap.size := fun e => by have := (hVg _ e).1; omega
  have hb3ne : V.ownBlock ≠ some (w.heap.size + 1) := fun e => by have := (hVg _ e).1; omega
  have hRne : V.ownBlock ≠ some R := fun e => by have := (hVg _ e).1; omega
  have hb2lt := m2.lt
  have hb3lt := m3.lt
  have s2 : StB w5 w.heap.size (.int .i64 0) (.int .i64 0) (.string ⟨#[]⟩) (.slice none 0 0) := (blk _ hb2lt hb2ne).trans m2
  have s3 : StB w5 (w.heap.size + 1) (.int .i64 4) (.int .i64 0) (.string ⟨#[]⟩) V := (blk _ hb3lt hb3ne).trans m3
  have r5 : Rds w w5 R s q true := Rds.append (((h.rds.trans hr).alloc o1).alloc o2) hg hR (fun k hk => by have := (hVg k hk).1; omega)
  have keepc : ∀ b, w.heap.size + 2 ≤ b → (w5.setCell ⟨w.heap.size + 1, 3, none⟩ V').heap[b]? = w5.heap[b]? := fun b hb => Below.heap_setCell _ _ _ _ (by show b ≠ w.heap.size + 1; omega)
  have hzs : (w5.setCell ⟨w.heap.size + 1, 3, none⟩ V').heap.size = w5.heap.size := by simp [World.setCell]
  refine ⟨r5.far (p := ⟨w.heap.size + 1, 3, none⟩) (by show w.heap.size ≤ w.heap.size + 1; omega) hR V', s2.far (p := ⟨w.heap.size + 1, 3, none⟩) (by show w.heap.size ≠ w.heap.size + 1; omega) V', s3.set3 V', ?_, ?_, ?_⟩
  · rw [VL.len_app]
    exact own_set hown (by omega) 3
  · refine CellsOf.app _ _ _ _ ?_ ⟨sa, sc, [], rfl, hsc, ?_, rfl⟩
    · refine mc.keep (fun b hb => ?_) (fun b hb => ⟨hb.1, by rw [hzs]; have := hb.2.1; omega, hV'b b hb.2.1 hb.2.2⟩)
      rw [keepc b hb.1, blk b hb.2.1 hb.2.2]
    · have hne : ∀ b, wr.heap.size ≤ b → V.ownBlock ≠ some b := fun b hb e => by have := (hVg b e).2; omega
      have hsz0 := h.size
      refine hrep.keep (fun b hb => ?_) (fun b hb => ⟨by have := hb.1; omega, by rw [hzs]; have := hb.2; omega, hV'b b hb.2 (hne b hb.1)⟩)
      rw [keepc b (by have := hb.1; omega), blk b hb.2 (hne b hb.1)]
  · rw [hzs]; omega

end Go.Proofs.YtoemnccklakkeaaDoor
