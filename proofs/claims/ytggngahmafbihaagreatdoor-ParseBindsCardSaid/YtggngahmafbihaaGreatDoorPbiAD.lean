/- Contracts of the functions that the statement reaches, and the plain mathematics beneath: several texts joined. -/
import Derived.Maps.AppendAt
import Derived.Laws.ResultCell
import Derived.Test.YtggngahmafbihaaGreatDoorPbiAB
namespace Go.Proofs.YtggngahmafbihaaGreatDoor
open Go.RowKit Go.Lib

/-- The cells of a list of values, their items in memory. -/
def CellsOf (w : World) (S : Nat → Prop) : VL → List Value → Prop
  | .nil, xs => xs = []
  | .cons k n s sub rest, xs => ∃ (sa : Option Addr) (sc : Nat) (ys : List Value), xs = .int .i64 k :: .int .i64 n :: .string s :: .slice sa sub.len sc :: ys ∧ sub.len ≤ sc ∧ RpL w S sub sa ∧ CellsOf w S rest ys

theorem CellsOf.keep {w w' : World} {S S' : Nat → Prop} (hw : ∀ b, S b → w'.heap[b]? = w.heap[b]?) (hS : ∀ b, S b → S' b) : ∀ (l : VL) (xs : List Value), CellsOf w S l xs → CellsOf w' S' l xs
  | .nil, _, h => h
  | .cons _ _ _ sub rest, _, ⟨sa, sc, ys, hx, hc, hs, hr⟩ => ⟨sa, sc, ys, hx, hc, RpL.keep hw hS sub sa hs, CellsOf.keep hw hS rest ys hr⟩
theorem CellsOf.length {w : World} {S : Nat → Prop} : ∀ (l : VL) (xs : List Value), CellsOf w S l xs → xs.length = l.len * 4
  | .nil, _, h => by have : _ = [] := h; subst this; rfl
  | .cons _ _ _ sub rest, _, ⟨sa, sc, ys, hx, hc, hs, hr⟩ => by
    subst hx
    have := CellsOf.length rest ys hr
    simp only [List.length_cons, VL.len]; omega
theorem CellsOf.one {w : World} {S : Nat → Prop} : ∀ (l : VL) (xs : List Value), CellsOf w S l xs → ∀ u ∈ xs, u.oneCell' = true
  | .nil, _, h => by have : _ = [] := h; subst this; simp
  | .cons _ _ _ sub rest, _, ⟨sa, sc, ys, hx, hc, hs, hr⟩ => by
    subst hx
    intro u hu
    simp only [List.mem_cons] at hu
    rcases hu with rfl | rfl | rfl | rfl | hu
    · rfl
    · rfl
    · rfl
    · rfl
    · exact CellsOf.one rest ys hr u hu
theorem CellsOf.app {w : World} {S : Nat → Prop} : ∀ (l m : VL) (xs ys : List Value), CellsOf w S l xs → CellsOf w S m ys → CellsOf w S (l.app m) (xs ++ ys)
  | .nil, m, xs, ys, h, h2 => by have : xs = [] := h; subst this; exact h2
  | .cons _ _ _ sub rest, m, _, ys, ⟨sa, sc, zs, hx, hc, hs, hr⟩, h2 => by
    subst hx
    exact ⟨sa, sc, zs ++ ys, rfl, hc, hs, CellsOf.app rest m zs ys hr h2⟩
/-- Such cells, laid in a block of the sort, are the list in memory. -/
theorem CellsOf.rep {w : World} {S : Nat → Prop} {g : Nat} (hg : S g) : ∀ (l : VL) (xs : List Value) (o : Nat), CellsOf w S l xs → (∀ j u, xs[j]? = some u → w.cell? ⟨g, o + j, none⟩ = some u) → RpL w S l (some ⟨g, o, none⟩)
  | .nil, _, _, _, _ => trivial
  | .cons k n s sub rest, _, o, ⟨sa, sc, ys, hx, hc, hs, hr⟩, hcell => by
    subst hx
    exact ⟨g, o, sa, sc, rfl, hg, hcell 0 _ rfl, hcell 1 _ rfl, hcell 2 _ rfl, hcell 3 _ rfl, hc, hs,
      CellsOf.rep hg rest ys (o + 4) hr (fun j u hj => by rw [show o + 4 + j = o + (j + 4) from by omega]; exact hcell (j + 4) u hj)⟩

/-- What a row that the call owns reads as. -/
theorem own_rep {w : World} {base : Nat} {v : Value} {l : VL} {xs : List Value} {S : Nat → Prop} (h : w.ownsRow base 28 4 v l.len xs) (hc : CellsOf w S l xs) (hS : ∀ g, v.ownBlock = some g → S g) :
    ∃ (sa : Option Addr) (sc : Nat), v = .slice sa l.len sc ∧ l.len ≤ sc ∧ RpL w S l sa := by
  rcases h.2 with ⟨rfl, hl⟩ | ⟨g, cap, cur, rfl, _, hh, hcap, _, hsz, ht⟩
  · rw [hl]
    refine ⟨none, 0, rfl, Nat.le_refl _, ?_⟩
    cases l with
    | nil => trivial
    | cons => simp [VL.len] at hl
  · refine ⟨some ⟨g, 0, none⟩, cap, rfl, hcap, CellsOf.rep (hS g rfl) l xs 0 hc (fun j u hj => ?_)⟩
    rw [Nat.zero_add, cell_of_row w g j cur _ _ hh, ← Array.getElem?_toList]
    have hlen := CellsOf.length l xs hc
    have hjl : j < xs.length := (List.getElem?_eq_some_iff.1 hj).1
    rw [← ht, List.getElem?_take_of_lt (by omega)] at hj
    exact hj

/-- What a call of the reader's value is to show. -/
def PVal (w : World) (R : Nat) (s : ByteArray) (r : Nat × Bool × VL) (e : Ending) (w' : World) : Prop :=
  ∃ (k n : Int) (t : ByteArray) (sa : Option Addr) (l sc : Nat), e = .returned (.agg #[.int .i64 k, .int .i64 n, .string t, .slice sa l sc]) ∧ Rds w w' R s r.1 r.2.1 ∧
    (r.2.1 = true → ∃ sub : VL, r.2.2 = val1 k n t sub ∧ l = sub.len ∧ sub.len ≤ sc ∧ RpL w' (fun b => w.heap.size ≤ b ∧ b < w'.heap.size) sub sa)

def ValC (f : Nat) : Prop := ∀ (R : Nat) (s : ByteArray) (i : Nat) (w : World), RdAt w R s i true → s.size ≤ 1000000000 → i ≤ s.size → 2 * (s.size - i) + 2 ≤ f →
  Calls Tryz.prog 158 #[.pointer (some ⟨R, 0, none⟩)] w (PVal w R s (valSp s f i))

theorem valI_c (n : Int) (w : World) : Calls Tryz.prog 189 #[.int .i64 n] w fun e w' => e = .returned (.agg #[.int .i64 0, .int .i64 n, .string ⟨#[]⟩, .slice none 0 0]) ∧ w.alloc (.cells #[.int .i64 0, .int .i64 n, .string ⟨#[]⟩, .slice none 0 0] 28) = w' := by
  go_enter Tryz.func189, Tryz.ntmps189
  go_wp2
  go_returns
  exact ⟨rfl, rfl⟩
theorem valO_c (n : Int) (w : World) : Calls Tryz.prog 186 #[.int .i64 n] w fun e w' => e = .returned (.agg #[.int .i64 1, .int .i64 n, .string ⟨#[]⟩, .slice none 0 0]) ∧ w.alloc (.cells #[.int .i64 1, .int .i64 n, .string ⟨#[]⟩, .slice none 0 0] 28) = w' := by
  go_enter Tryz.func186, Tryz.ntmps186
  go_wp2
  go_returns
  exact ⟨rfl, rfl⟩
theorem valE_c (n : Int) (w : World) : Calls Tryz.prog 193 #[.int .i64 n] w fun e w' => e = .returned (.agg #[.int .i64 3, .int .i64 n, .string ⟨#[]⟩, .slice none 0 0]) ∧ w.alloc (.cells #[.int .i64 3, .int .i64 n, .string ⟨#[]⟩, .slice none 0 0] 28) = w' := by
  go_enter Tryz.func193, Tryz.ntmps193
  go_wp2
  go_returns
  exact ⟨rfl, rfl⟩
theorem valS_c (t : ByteArray) (w : World) : Calls Tryz.prog 190 #[.string t] w fun e w' => e = .returned (.agg #[.int .i64 2, .int .i64 0, .string t, .slice none 0 0]) ∧ w.alloc (.cells #[.int .i64 2, .int .i64 0, .string t, .slice none 0 0] 28) = w' := by
  go_enter Tryz.func190, Tryz.ntmps190
  go_wp2
  go_returns
  exact ⟨rfl, rfl⟩

/-- A struct of four cells in a block of its own. -/
def StB (w : World) (g : Nat) (a b c d : Value) : Prop := w.heap[g]? = some (.cells #[a, b, c, d] 28 (0, 0))
section
variable {w w' : World} {g : Nat} {a b c d : Value}
theorem StB.lt (h : StB w g a b c d) : g < w.heap.size := by
  rcases Nat.lt_or_ge g w.heap.size with hlt | hge
  · exact hlt
  · unfold StB at h; rw [Array.getElem?_eq_none hge] at h; cases h
theorem StB.c0 (h : StB w g a b c d) : w.cell? ⟨g, 0, none⟩ = some a := cell_of_row w g 0 _ _ _ h
theorem StB.c1 (h : StB w g a b c d) : w.cell? ⟨g, 1, none⟩ = some b := cell_of_row w g 1 _ _ _ h
theorem StB.c2 (h : StB w g a b c d) : w.cell? ⟨g, 2, none⟩ = some c := cell_of_row w g 2 _ _ _ h
theorem StB.c3 (h : StB w g a b c d) : w.cell? ⟨g, 3, none⟩ = some d := cell_of_row w g 3 _ _ _ h
theorem StB.fr (h : StB w g a b c d) (k : Nat) : w.frozen? ⟨g, k, none⟩ = false := by unfold StB at h; simp [World.frozen?, h]
theorem StB.new (w : World) (a b c d : Value) : StB (w.alloc (.cells #[a, b, c, d] 28)) w.heap.size a b c d := by
  unfold StB World.alloc; simp
theorem StB.alloc (h : StB w g a b c d) (o : Obj) : StB (w.alloc o) g a b c d := (Below.heap_alloc w o g h.lt).trans h
theorem StB.set3 (h : StB w g a b c d) (u : Value) : StB (w.setCell ⟨g, 3, none⟩ u) g a b c u := by
  unfold StB at h ⊢; simp [World.setCell, Array.getElem?_modify, h]
theorem StB.far (h : StB w g a b c d) {p : Addr} (hp : g ≠ p.block) (u : Value) : StB (w.setCell p u) g a b c d := (Below.heap_setCell w p u g hp).trans h
theorem StB.only (h : StB w g a b c d) {row : Option Nat} (hg : w.grownBy w' row) (hr : some g ≠ row) : StB w' g a b c d := (hg.block g h.lt hr).trans h
theorem StB.drewN (h : StB w g a b c d) (n : Nat) : StB (w.drewN n) g a b c d := h
end

theorem StB.set4 {w : World} {g : Nat} {a b c d : Value} (h : StB w g a b c d) (a' b' c' d' : Value) :
    StB ((((w.setCell ⟨g, 0, none⟩ a').setCell ⟨g, 1, none⟩ b').setCell ⟨g, 2, none⟩ c').setCell ⟨g, 3, none⟩ d') g a' b' c' d' := by
  unfold StB at h ⊢; simp [World.setCell, Array.getElem?_modify, h]

/-- A struct of four cells handed back out of its block. -/
theorem results_cell4 {fn : Func} {p : Tmp} (h : fn.results = #[.cell p 28]) (tmps : Array Value) (w : World) (g : Nat) (hp : tmps.getD p undef = .pointer (some ⟨g, 0, none⟩)) {a b c d : Value} (hS : StB w g a b c d) :
    (results fn tmps).run Tryz.prog w = .ok (.agg #[a, b, c, d]) w := by
  have c0 := hS.c0
  have c1 := hS.c1
  have c2 := hS.c2
  have c3 := hS.c3
  have hp' : (tmps[p]?).getD undef = .pointer (some ⟨g, 0, none⟩) := by simpa using hp
  simp [results, h, hp', go_sem, c0, c1, c2, c3]
theorem ret_cell4 {fn : Func} {p : Tmp} {Q : Ending → World → Prop} {act : Act} {w : World} (h : fn.results = #[.cell p 28]) (g : Nat) (hp : act.tmps.getD p undef = .pointer (some ⟨g, 0, none⟩)) (hd : act.defers = [])
    {a b c d : Value} (hS : StB w g a b c d) (hQ : Q (.returned (.agg #[a, b, c, d])) w) : bodyPost Tryz.prog fn Q .ret act w :=
  bodyPost_ret (results_cell4 h act.tmps w g hp hS) hd hQ

theorem val_info : (Tryz.prog.info? 28).map (fun i => (i.zero, i.size, i.bytes)) = some (some (.agg #[.int .i64 0, .int .i64 0, .string ⟨#[]⟩, .slice none 0 0]), 4, 56) := by kernel_rfl

theorem Rds.far {w1 w2 : World} {R : Nat} {s : ByteArray} {i : Nat} {ok : Bool} (h : Rds w1 w2 R s i ok) {p : Addr} (hp : w1.heap.size ≤ p.block) (hR : R < w1.heap.size) (u : Value) : Rds w1 (w2.setCell p u) R s i ok :=
  ⟨(Below.heap_setCell w2 p u R (by omega)).trans h.at_, only_setCell h.grown (.inr hp) u⟩
theorem Rds.far4 {w1 w2 : World} {R : Nat} {s : ByteArray} {i : Nat} {ok : Bool} (h : Rds w1 w2 R s i ok) {g : Nat} (hp : w1.heap.size ≤ g) (hR : R < w1.heap.size) (a b c d : Value) :
    Rds w1 ((((w2.setCell ⟨g, 0, none⟩ a).setCell ⟨g, 1, none⟩ b).setCell ⟨g, 2, none⟩ c).setCell ⟨g, 3, none⟩ d) R s i ok :=
  (((h.far (p := ⟨g, 0, none⟩) hp hR a).far (p := ⟨g, 1, none⟩) hp hR b).far (p := ⟨g, 2, none⟩) hp hR c).far (p := ⟨g, 3, none⟩) hp hR d

/-- What the reader's list reads, at a place where a bracket opens. -/
def brSp (s : ByteArray) (f i : Nat) : Nat × Bool × VL :=
  if pk s (i + 1) = 125 then (i + 2, true, val1 4 0 ByteArray.empty .nil)
  else ((lstSp s f (i + 1) .nil).1, (lstSp s f (i + 1) .nil).2.1, val1 4 0 ByteArray.empty (lstSp s f (i + 1) .nil).2.2)

theorem own_form {W : World} {base e size n : Nat} {v : Value} {xs : List Value} (h : W.ownsRow base e size v n xs) : ∃ (A : Option Addr) (C : Nat), v = .slice A n C := by
  rcases h.2 with ⟨rfl, hn⟩ | ⟨g, cap, cur, rfl, _⟩
  · subst hn; exact ⟨none, 0, rfl⟩
  · exact ⟨some ⟨g, 0, none⟩, cap, rfl⟩

theorem heap_set4 (w : World) (g : Nat) (a b c d : Value) (k : Nat) (h : k ≠ g) : ((((w.setCell ⟨g, 0, none⟩ a).setCell ⟨g, 1, none⟩ b).setCell ⟨g, 2, none⟩ c).setCell ⟨g, 3, none⟩ d).heap[k]? = w.heap[k]? := by
  rw [Below.heap_setCell _ _ _ _ h, Below.heap_setCell _ _ _ _ h, Below.heap_setCell _ _ _ _ h, Below.heap_setCell _ _ _ _ h]
theorem size_set4 (w : World) (g : Nat) (a b c d : Value) : ((((w.setCell ⟨g, 0, none⟩ a).setCell ⟨g, 1, none⟩ b).setCell ⟨g, 2, none⟩ c).setCell ⟨g, 3, none⟩ d).heap.size = w.heap.size := by simp [World.setCell]

/-- What holds at the head of the list's loop. -/
structure LInv (w wr : World) (R : Nat) (s : ByteArray) (j : Nat) (V : Value) (acc : VL) (xs : List Value) : Prop where
  rds : Rds w wr R s j true
  b2 : StB wr w.heap.size (.int .i64 0) (.int .i64 0) (.string ⟨#[]⟩) (.slice none 0 0)
  b3 : StB wr (w.heap.size + 1) (.int .i64 4) (.int .i64 0) (.string ⟨#[]⟩) V
  own : wr.ownsRow (w.heap.size + 2) 28 4 V acc.len xs
  cells : CellsOf wr (fun b => w.heap.size + 2 ≤ b ∧ b < wr.heap.size ∧ V.ownBlock ≠ some b) acc xs
  size : w.heap.size + 2 ≤ wr.heap.size

theorem own_lt {W : World} {base e size n : Nat} {v : Value} {xs : List Value} (h : W.ownsRow base e size v n xs) (k : Nat) (hk : v.ownBlock = some k) : k < W.heap.size := by
  rcases h.2 with ⟨rfl, _⟩ | ⟨g, cap, cur, rfl, hb, hh, _⟩
  · cases hk
  · injection hk with hk
    subst hk
    rcases Nat.lt_or_ge g W.heap.size with hlt | hge
    · exact hlt
    · rw [Array.getElem?_eq_none hge] at hh; cases hh

theorem LInv.move {w wr wr' : World} {R : Nat} {s : ByteArray} {j j' : Nat} {V : Value} {acc : VL} {xs : List Value} (h : LInv w wr R s j V acc xs) {ok : Bool} (hr : Rds wr wr' R s j' ok) (hR : R < w.heap.size) :
    StB wr' w.heap.size (.int .i64 0) (.int .i64 0) (.string ⟨#[]⟩) (.slice none 0 0) ∧ StB wr' (w.heap.size + 1) (.int .i64 4) (.int .i64 0) (.string ⟨#[]⟩) V ∧ wr'.ownsRow (w.heap.size + 2) 28 4 V acc.len xs ∧
      CellsOf wr' (fun b => w.heap.size + 2 ≤ b ∧ b < wr'.heap.size ∧ V.ownBlock ≠ some b) acc xs ∧ w.heap.size + 2 ≤ wr'.heap.size :=
  ⟨h.b2.only hr.grown (fun e => by injection e with e; omega), h.b3.only hr.grown (fun e => by injection e with e; omega), own_keep h.own hr.grown (by omega),
   h.cells.keep (fun b hb => hr.grown.block b hb.2.1 (fun e => by injection e with e; omega)) (fun b hb => ⟨hb.1, Nat.lt_of_lt_of_le hb.2.1 hr.grown.size, hb.2.2⟩), Nat.le_trans h.size hr.grown.size⟩
theorem LInv.ok {w wr wr' : World} {R : Nat} {s : ByteArray} {j j' : Nat} {V : Value} {acc : VL} {xs : List Value} (h : LInv w wr R s j V acc xs) (hr : Rds wr wr' R s j' true) (hR : R < w.heap.size) : LInv w wr' R s j' V acc xs :=
  ⟨h.rds.trans hr, (h.move hr hR).1, (h.move hr hR).2.1, (h.move hr hR).2.2.1, (h.move hr hR).2.2.2.1, (h.move hr hR).2.2.2.2⟩

theorem cell_four_new (w : World) (B : Nat) (hB : B = w.heap.size) (a b c d : Value) (t : TypeId) : ∀ j u, [a, b, c, d][j]? = some u → (w.alloc (.cells #[a, b, c, d] t)).cell? ((⟨B, 0, none⟩ : Addr).add j) = some u := by
  subst hB
  intro j u hj
  have e : (⟨w.heap.size, 0, none⟩ : Addr).add j = ⟨w.heap.size, j, none⟩ := by unfold Addr.add; split <;> simp_all
  rw [e, World.cell?_alloc_at _ _ _ _ rfl]
  simpa using hj

theorem LInv.grow {w wr w3 w5 : World} {R : Nat} {s : ByteArray} {j q : Nat} {V : Value} {acc : VL} {xs : List Value} (h : LInv w wr R s j V acc xs) (hr : Rds wr w3 R s q true) (hR : R < w.heap.size) {o1 o2 : Obj}
    (hg : ((w3.alloc o1).alloc o2).grownBy w5 V.ownBlock) : StB w5 (w.heap.size + 1) (.int .i64 4) (.int .i64 0) (.string ⟨#[]⟩) V := by
  obtain ⟨_, m3, _, _, _⟩ := h.move hr hR
  have hlt := m3.lt
  have hsz : ((w3.alloc o1).alloc o2).heap.size = w3.heap.size + 2 := by simp
  have h1 := hg.block (w.heap.size + 1) (by omega) (fun e => by have := own_ge h.own _ e.symm; omega)
  exact (h1.trans ((Below.heap_alloc _ _ _ (by simp; omega)).trans (Below.heap_alloc _ _ _ hlt))).trans m3

theorem LInv.step {w wr w3 w5 : World} {R : Nat} {s : ByteArray} {j q : Nat} {V V' : Value} {acc : VL} {xs : List Value} (h : LInv w wr R s j V acc xs) (hr : Rds wr w3 R s q true) (hR : R < w.heap.size)
    {k n : Int} {t : ByteArray} {sub : VL} {sa : Option Addr} {sc : Nat} (hsc : sub.len ≤ sc) (hrep : RpL w3 (fun b => wr.heap.size ≤ b ∧ b < w3.heap.size) sub sa) {o1 o2 : Obj}
    (hown : w5.ownsRow (w.heap.size + 2) 28 4 V' (acc.len + 1) (xs ++ [.int .i64 k, .int .i64 n, .string t, .slice sa sub.len sc])) (hg : ((w3.alloc o1).alloc o2).grownBy w5 V.ownBlock)
    (hob : V'.ownBlock = V.ownBlock ∨ V'.ownBlock = some ((w3.alloc o1).alloc o2).heap.size) :
    LInv w (w5.setCell ⟨w.heap.size + 1, 3, none⟩ V') R s q V' (acc.app (val1 k n t sub)) (xs ++ [.int .i64 k, .int .i64 n, .string t, .slice sa sub.len sc]) := by
  obtain ⟨m2, m3, mo, mc, mz⟩ := h.move hr hR
  have hVg : ∀ g, V.ownBlock = some g → w.heap.size + 2 ≤ g ∧ g < wr.heap.size := fun g hg => ⟨own_ge h.own g hg, own_lt h.own g hg⟩
  have hsz : ((w3.alloc o1).alloc o2).heap.size = w3.heap.size + 2 := by simp
  have hz5 : w3.heap.size + 2 ≤ w5.heap.size := by have := hg.size; omega
  have hz3 := hr.grown.size
  have blk : ∀ b, b < w3.heap.size → V.ownBlock ≠ some b → w5.heap[b]? = w3.heap[b]? := fun b hb hne => by
    have h1 := hg.block b (by omega) (fun e => hne e.symm)
    rw [h1, Below.heap_alloc _ _ _ (by simp; omega), Below.heap_alloc _ _ _ hb]
  have hV'b : ∀ b, b < w3.heap.size → V.ownBlock ≠ some b → V'.ownBlock ≠ some b := fun b hb hne e => by
    rcases hob with e2 | e2
    · exact hne (e2.symm.trans e)
    · rw [e] at e2
      injection e2 with e2
      omega
  have hb2ne : V.ownBlock ≠ some w.heap.size := fun e => by have := (hVg _ e).1; omega
  have hb3ne : V.ownBlock ≠ some (w.heap.size + 1) := fun e => by have := (hVg _ e).1; omega
  have hRne : V.ownBlock ≠ some R := fun e => by have := (hVg _ e).1; omega
  have hb2lt := m2.lt
  have hb3lt := m3.lt
  have s2 : StB w5 w.heap.size (.int .i64 0) (.int .i64 0) (.string ⟨#[]⟩) (.slice none 0 0) := (blk _ hb2lt hb2ne).trans m2
  have s3 : StB w5 (w.heap.size + 1) (.int .i64 4) (.int .i64 0) (.string ⟨#[]⟩) V := (blk _ hb3lt hb3ne).trans m3
  have r5 : Rds w w5 R s q true := Rds.append (((h.rds.trans hr).alloc o1).alloc o2) hg hR (fun k hk => by have := (hVg k hk).1; omega)
  have keepc : ∀ b, w.heap.size + 2 ≤ b → (w5.setCell ⟨w.heap.size + 1, 3, none⟩ V').heap[b]? = w5.heap[b]? := fun b hb => Below.heap_setCell _ _ _ _ (by show b ≠ w.heap.size + 1; omega)
  have hzs : (w5.setCell ⟨w.heap.size + 1, 3, none⟩ V').heap.size = w5.heap.size := by simp [World.setCell]
  refine ⟨r5.far (p := ⟨w.heap.size + 1, 3, none⟩) (by show w.heap.size ≤ w.heap.size + 1; omega) hR V', s2.far (p := ⟨w.heap.size + 1, 3, none⟩) (by show w.heap.size ≠ w.heap.size + 1; omega) V', s3.set3 V', ?_, ?_, ?_⟩
  · rw [VL.len_app]
    exact own_set hown (by omega) 3
  · refine CellsOf.app _ _ _ _ ?_ ⟨sa, sc, [], rfl, hsc, ?_, rfl⟩
    · refine mc.keep (fun b hb => ?_) (fun b hb => ⟨hb.1, by rw [hzs]; have := hb.2.1; omega, hV'b b hb.2.1 hb.2.2⟩)
      rw [keepc b hb.1, blk b hb.2.1 hb.2.2]
    · have hne : ∀ b, wr.heap.size ≤ b → V.ownBlock ≠ some b := fun b hb e => by have := (hVg b e).2; omega
      have hsz0 := h.size
      refine hrep.keep (fun b hb => ?_) (fun b hb => ⟨by have := hb.1; omega, by rw [hzs]; have := hb.2; omega, hV'b b hb.2 (hne b hb.1)⟩)
      rw [keepc b (by have := hb.1; omega), blk b hb.2 (hne b hb.1)]
  · rw [hzs]; omega

end Go.Proofs.YtggngahmafbihaaGreatDoor
namespace Go.Proofs.YtggngahmafbihaaGreatDoor
open Go.RowKit Go.Lib

set_option maxRecDepth 100000 in
set_option maxHeartbeats 2000000 in
theorem list_c (f : Nat) (ih : ∀ f', f' < f → ValC f') (R : Nat) (s : ByteArray) (i : Nat) (w : World) (h : RdAt w R s i true) (hs : s.size ≤ 1000000000) (hq : pk s i = 123) (hf : 2 * (s.size - i) + 1 ≤ f) :
    Calls Tryz.prog 192 #[.pointer (some ⟨R, 0, none⟩)] w (PVal w R s (brSp s f i)) := by
  obtain ⟨i0, hi0, hz0, hz1, hz2⟩ := info_parts val_info
  have hi : i < s.size := pk_lt (by rw [hq]; decide)
  have hRl := h.lt
  have tk := fun W hW => take_c R s i true 123 W hW hs
  have e1 : tkOk s i true 123 = true := by simp [tkOk, hi, hq]
  have e2 : tkAt s i true 123 = i + 1 := by unfold tkAt; rw [e1]; rfl
  rw [e1, e2] at tk
  have TK := Lib.hid tk
  have pk1 := Lib.hid (fun W hW => peek_c R s (i + 1) true W hW)
  have IH := Lib.hid ih
  clear tk e1 e2 hq ih
  obtain ⟨wa, hwa⟩ : ∃ wa, wa = (w.alloc (.cells #[.int .i64 0, .int .i64 0, .string ⟨#[]⟩, .slice none 0 0] 28)).alloc (.cells #[.int .i64 4, .int .i64 0, .string ⟨#[]⟩, .slice none 0 0] 28) := ⟨_, rfl⟩
  have hra : Rds w wa R s i true := by rw [hwa]; exact ((Rds.of h).alloc _).alloc _
  have hb2 : StB wa w.heap.size (.int .i64 0) (.int .i64 0) (.string ⟨#[]⟩) (.slice none 0 0) := by rw [hwa]; exact (StB.new w _ _ _ _).alloc _
  have hb3 : StB wa (w.heap.size + 1) (.int .i64 4) (.int .i64 0) (.string ⟨#[]⟩) (.slice none 0 0) := by rw [hwa]; have := StB.new (w.alloc (.cells #[.int .i64 0, .int .i64 0, .string ⟨#[]⟩, .slice none 0 0] 28)) (.int .i64 4) (.int .i64 0) (.string ⟨#[]⟩) (.slice none 0 0); simpa using this
  have HA := Lib.hid hra
  have HB2 := Lib.hid hb2
  have HB3 := Lib.hid hb3
  have hza : wa.heap.size = w.heap.size + 2 := by rw [hwa]; simp
  have HZA := Lib.hid hza
  clear hra hb2 hb3 hza
  go_enter Tryz.func192, Tryz.ntmps192
  go_wp2_with fail
  rw [← hwa]
  refine (TK.out _ HA.out.at_).mono ?_
  rintro e w1 ⟨rfl, hr1⟩
  have gb1 : some w.heap.size ≠ some R := fun e => by injection e with e; omega
  have gb2 : some (w.heap.size + 1) ≠ some R := fun e => by injection e with e; omega
  have hb2 := HB2.out.only hr1.grown gb1
  have hb3 := HB3.out.only hr1.grown gb2
  have HR1 := Lib.hid (HA.out.trans hr1)
  have hz1 : w.heap.size + 2 ≤ w1.heap.size := by have := hr1.grown.size; have := HZA.out; omega
  clear hr1
  by_cases hq : pk s (i + 1) = 125
  · have HSP := Lib.hid (show brSp s f i = (i + 2, true, val1 4 0 ByteArray.empty .nil) by unfold brSp; rw [if_pos hq])
    have hi2 : i + 1 < s.size := pk_lt (by rw [hq]; decide)
    have PK := Lib.hid (show ∀ W, RdAt W R s (i + 1) true → Calls Tryz.prog 185 #[.pointer (some ⟨R, 0, none⟩)] W fun e w' => e = .returned (.int .u8 125) ∧ ∃ n, w' = W.drewN n from fun W hW => by
      have := pk1.out W hW
      rw [hq] at this
      exact this)
    have tk := fun W hW => take_c R s (i + 1) true 125 W hW hs
    have e1 : tkOk s (i + 1) true 125 = true := by simp [tkOk, hi2, hq]
    have e2 : tkAt s (i + 1) true 125 = i + 2 := by unfold tkAt; rw [e1]; rfl
    rw [e1, e2] at tk
    have TK2 := Lib.hid tk
    clear tk e1 e2 hq pk1
    go_wp2_with fail
    refine (PK.out _ HR1.out.at_).mono ?_
    rintro e w2 ⟨rfl, n2, rfl⟩
    go_wp2_with fail
    refine (TK2.out _ (HR1.out.at_.drewN n2)).mono ?_
    rintro e w3 ⟨rfl, hr3⟩
    have hc2 := (hb2.drewN n2).only hr3.grown gb1
    have hc3 := (hb3.drewN n2).only hr3.grown gb2
    have k20 := hc2.c0; have k21 := hc2.c1; have k22 := hc2.c2; have k23 := hc2.c3
    have k30 := hc3.c0; have k31 := hc3.c1; have k32 := hc3.c2; have k33 := hc3.c3
    have m20 := hc2.fr 0; have m21 := hc2.fr 1; have m22 := hc2.fr 2; have m23 := hc2.fr 3
    have HR3 := Lib.hid (Rds.trans (HR1.out.drewN n2) hr3)
    clear hr3 hb2 hb3
    go_wp2_with fail
    refine ret_cell4 Tryz.results192 w.heap.size rfl rfl (hc2.set4 _ _ _ _) ?_
    rw [HSP.out]
    exact ⟨4, 0, ⟨#[]⟩, none, 0, 0, rfl, HR3.out.far4 (Nat.le_refl _) hRl _ _ _ _, fun _ => ⟨.nil, rfl, rfl, Nat.le_refl _, trivial⟩⟩
  · have HSP := Lib.hid (show brSp s f i = ((lstSp s f (i + 1) .nil).1, (lstSp s f (i + 1) .nil).2.1, val1 4 0 ByteArray.empty (lstSp s f (i + 1) .nil).2.2) by unfold brSp; rw [if_neg hq])
    have nq := ne_byte (x := pk s (i + 1)) 125 125 rfl hq
    obtain ⟨c1, hc1⟩ : ∃ c : Nat, c = (pk s (i + 1)).toNat := ⟨_, rfl⟩
    rw [← hc1] at nq pk1
    obtain ⟨nq1, nq2⟩ := nq
    clear hq hc1
    go_wp2_with fail
    refine (pk1.out _ HR1.out.at_).mono ?_
    rintro e w2 ⟨rfl, n2, rfl⟩
    have HR2 := Lib.hid (HR1.out.drewN n2)
    have HC2 := Lib.hid (hb2.drewN n2)
    have HC3 := Lib.hid (hb3.drewN n2)
    clear hb2 hb3
    obtain ⟨wL, hwL⟩ : ∃ wL, wL = w1.drewN n2 := ⟨_, rfl⟩
    have hzL : w.heap.size + 2 ≤ wL.heap.size := by rw [hwL]; exact hz1
    rw [← hwL] at HR2 HC2 HC3
    rw [← hwL]
    clear hwL hz1
    go_wp2_with fail
    have HL0 := Lib.hid (show LInv w wL R s (i + 1) (.slice none 0 0) .nil [] from ⟨HR2.out, HC2.out, HC3.out, World.ownsRow_nil _ _ _ _, rfl, hzL⟩)
    clear HR2 HC2 HC3 HR1 HA hwa HB2 HB3 TK pk1 nq1 nq2 gb1 gb2
    go_loopg [] f (fun k wr => ∃ (V : Value) (j : Nat) (acc : VL) (xs : List Value), LInv w wr R s j V acc xs ∧ j ≤ s.size ∧ 2 * (s.size - j) + 3 ≤ k ∧ k ≤ f ∧ acc.len ≤ j ∧ Hid (lstSp s k j acc = lstSp s f (i + 1) .nil))
    case atStart => exact ⟨.slice none 0 0, i + 1, .nil, [], HL0.out, by omega, by omega, Nat.le_refl _, Nat.zero_le _, rfl⟩
    case round =>
      obtain ⟨V, j, acc, xs, hli, hj, hk, hkf, hal, hqq⟩ := hrel
      obtain ⟨k, rfl⟩ : ∃ k, gk = k + 1 := ⟨gk - 1, by omega⟩
      have hrj := hli.rds.at_
      obtain ⟨VA, VC, rfl⟩ := own_form hli.own
      have LI := Lib.hid hli
      clear hli
      go_wp2_with fail
      refine (IH.out k (by omega) R s j wr hrj hs hj (by omega)).mono ?_
      rintro e w3 hpv
      obtain ⟨vk, vn, vt, va, vl, vc, rfl, hr3, hval⟩ := hpv
      have hpl := valSp_place s k j hj
      obtain ⟨q, okb, vv, hrr⟩ : ∃ q okb vv, valSp s k j = (q, okb, vv) := ⟨_, _, _, rfl⟩
      have HLS := Lib.hid (show lstSp s (k + 1) j acc = if okb = false then (q, false, acc) else if pk s q = 44 then if pk s (q + 1) = 32 then lstSp s k (q + 2) (acc.app vv) else (q + 1, false, acc.app vv) else if pk s q = 125 then (q + 1, true, acc.app vv) else (q, false, acc.app vv) by rw [lstSp, hrr])
      rw [hrr] at hr3 hval hpl
      simp only at hr3 hval hpl
      obtain ⟨hpl1, hpl2⟩ := hpl
      clear hrr
      have gR : R < w3.heap.size := hr3.at_.lt
      cases okb with
      | false =>
        have HLS2 := Lib.hid (HLS.out.trans (if_pos rfl))
        obtain ⟨m2, m3, mo, mc, mz⟩ := LI.out.move hr3 hRl
        have M2 := Lib.hid (m2.alloc (.cells #[.int .i64 vk, .int .i64 vn, .string vt, .slice va vl vc] 28))
        have M3 := Lib.hid (m3.alloc (.cells #[.int .i64 vk, .int .i64 vn, .string vt, .slice va vl vc] 28))
        have MR := Lib.hid ((LI.out.rds.trans hr3).alloc (.cells #[.int .i64 vk, .int .i64 vn, .string vt, .slice va vl vc] 28))
        have k20 := M2.out.c0; have k21 := M2.out.c1; have k22 := M2.out.c2; have k23 := M2.out.c3
        have k30 := M3.out.c0; have k31 := M3.out.c1; have k32 := M3.out.c2; have k33 := M3.out.c3
        have f20 := M2.out.fr 0; have f21 := M2.out.fr 1; have f22 := M2.out.fr 2; have f23 := M2.out.fr 3
        have kr := MR.out.at_.c2
        clear hval hr3 m2 m3 mo mc mz HLS
        go_wp2_with fail
        refine ret_cell4 Tryz.results192 w.heap.size rfl rfl (M2.out.set4 _ _ _ _) ?_
        rw [HSP.out, ← hqq.out, HLS2.out]
        exact ⟨4, 0, ⟨#[]⟩, VA, acc.len, VC, rfl, MR.out.far4 (Nat.le_refl _) hRl _ _ _ _, fun e => by cases e⟩
      | true =>
        have HLS2 := Lib.hid (HLS.out.trans (if_neg (by decide)))
        obtain ⟨sub, hvv, hvl, hsc, hrep⟩ := hval rfl
        subst hvl
        rw [hvv] at HLS2
        have RP := Lib.hid hrep
        have R3 := Lib.hid hr3
        obtain ⟨m2, m3, mo, mc, mz⟩ := LI.out.move hr3 hRl
        have M3 := Lib.hid (m3.alloc (.cells #[.int .i64 vk, .int .i64 vn, .string vt, .slice va sub.len vc] 28))
        have MR := Lib.hid ((LI.out.rds.trans hr3).alloc (.cells #[.int .i64 vk, .int .i64 vn, .string vt, .slice va sub.len vc] 28))
        have MO := Lib.hid mo
        have NX := StB.new w3 (.int .i64 vk) (.int .i64 vn) (.string vt) (.slice va sub.len vc)
        have k33 := M3.out.c3
        have n0 := NX.c0; have n1 := NX.c1; have n2' := NX.c2; have n3 := NX.c3
        have kr := MR.out.at_.c2
        clear hval hr3 m2 m3 mo mc HLS hvv hrep NX
        go_wp2_with (at_builtin; refine wpList_append_own_at _ rfl (.tmp 20) (.tmp 22) 26 rfl (w.heap.size + 2) 28 i0 _ 4 56 Tryz.underlying26 hi0 hz0 hz1 hz2 rfl (by decide) (.slice VA acc.len VC) acc.len xs rfl ((MO.out.alloc _).alloc _) ⟨w3.heap.size + 1, 0, none⟩ 1 1 [.int .i64 vk, .int .i64 vn, .string vt, .slice va sub.len vc] rfl rfl ?c1 ?c2 ?c3 ?c4 ?c5 ?_
                     case c1 => exact cell_four_new (w3.alloc _) _ (by simp) _ _ _ _ _
                     case c2 => intro u hu; simp at hu; rcases hu with rfl | rfl | rfl | rfl <;> rfl
                     case c3 => unfold maxLen; omega
                     case c4 => omega
                     case c5 => simp; omega
                     intro V' w5 hown' hgrow _ hob
                     obtain ⟨VA', VC', hV'⟩ := own_form hown'
                     rw [hV'] at hown' hob ⊢
                     have s5 := LInv.grow LI.out R3.out hRl hgrow
                     have s53 := s5.c3
                     have s5f := s5.fr 3
                     have ST := Lib.hid (LInv.step LI.out R3.out hRl hsc RP.out hown' hgrow hob)
                     clear hown' hgrow hob hV' s5)
        obtain ⟨w6, hw6⟩ : ∃ w6, w6 = w5.setCell ⟨w.heap.size + 1, 3, none⟩ (.slice VA' (acc.len + 1) VC') := ⟨_, rfl⟩
        rw [← hw6] at ST
        rw [← hw6]
        clear hw6 s53 s5f k33 n0 n1 n2' n3 kr M3 MR MO LI
        obtain ⟨xs', hxs'⟩ : ∃ xs', xs' = xs ++ [.int .i64 vk, .int .i64 vn, .string vt, .slice va sub.len vc] := ⟨_, rfl⟩
        obtain ⟨acc', hacc'⟩ : ∃ acc', acc' = acc.app (val1 vk vn vt sub) := ⟨_, rfl⟩
        have hal' : acc'.len = acc.len + 1 := by rw [hacc', VL.len_app]; rfl
        have HAL := Lib.hid hal'
        rw [← hxs', ← hacc'] at ST
        rw [← hacc'] at HLS2
        clear hxs' hacc' hal' RP
        have h6 := ST.out.rds.at_
        have pq := fun W hW => peek_c R s q true W hW
        by_cases q44 : pk s q = 44
        · have HL3 := Lib.hid (HLS2.out.trans (if_pos q44))
          have hq2 : q < s.size := pk_lt (by rw [q44]; decide)
          have PQ := Lib.hid (show ∀ W, RdAt W R s q true → Calls Tryz.prog 185 #[.pointer (some ⟨R, 0, none⟩)] W fun e w' => e = .returned (.int .u8 44) ∧ ∃ n, w' = W.drewN n from fun W hW => by
            have := pq W hW
            rw [q44] at this
            exact this)
          have tq := fun W hW => take_c R s q true 44 W hW hs
          have e1 : tkOk s q true 44 = true := by simp [tkOk, hq2, q44]
          have e2 : tkAt s q true 44 = q + 1 := by unfold tkAt; rw [e1]; rfl
          rw [e1, e2] at tq
          have TQ := Lib.hid tq
          have tq1 := fun W hW => take_c R s (q + 1) true 32 W hW hs
          clear tq e1 e2 q44 pq
          by_cases q32 : pk s (q + 1) = 32
          · have HL4 := Lib.hid (HL3.out.trans (if_pos q32))
            have hq3 : q + 1 < s.size := pk_lt (by rw [q32]; decide)
            have e1 : tkOk s (q + 1) true 32 = true := by simp [tkOk, hq3, q32]
            have e2 : tkAt s (q + 1) true 32 = q + 2 := by unfold tkAt; rw [e1]; rfl
            rw [e1, e2] at tq1
            have TQ1 := Lib.hid tq1
            clear tq1 e1 e2 q32
            go_wp2_with fail
            refine (PQ.out _ h6).mono ?_
            rintro e w7 ⟨rfl, n7, rfl⟩
            go_wp2_with fail
            refine (TQ.out _ (h6.drewN n7)).mono ?_
            rintro e w8 ⟨rfl, hr8⟩
            go_wp2_with fail
            refine (TQ1.out _ hr8.at_).mono ?_
            rintro e w9 ⟨rfl, hr9⟩
            have hr9' : Rds w6 w9 R s (q + 2) true := (((Rds.of h6).drewN n7).trans hr8).trans hr9
            have kr9 := hr9.at_.c2
            have LI9 := Lib.hid (ST.out.ok hr9' hRl)
            clear hr8 hr9 hr9'
            go_wp2_with fail
            go_roundg k
            case measure => omega
            case rel => exact ⟨.slice VA' (acc.len + 1) VC', q + 2, acc', xs', LI9.out, by omega, by omega, by omega, by have := HAL.out; omega, HL4.out.symm.trans hqq.out⟩
          · have HL4 := Lib.hid (HL3.out.trans (if_neg q32))
            have e1 : tkOk s (q + 1) true 32 = false := by simp [tkOk, q32]
            have e2 : tkAt s (q + 1) true 32 = q + 1 := by unfold tkAt; rw [e1]; rfl
            rw [e1, e2] at tq1
            have TQ1 := Lib.hid tq1
            clear tq1 e1 e2 q32
            go_wp2_with fail
            refine (PQ.out _ h6).mono ?_
            rintro e w7 ⟨rfl, n7, rfl⟩
            go_wp2_with fail
            refine (TQ.out _ (h6.drewN n7)).mono ?_
            rintro e w8 ⟨rfl, hr8⟩
            go_wp2_with fail
            refine (TQ1.out _ hr8.at_).mono ?_
            rintro e w9 ⟨rfl, hr9⟩
            have hr9' : Rds w6 w9 R s (q + 1) false := (((Rds.of h6).drewN n7).trans hr8).trans hr9
            obtain ⟨m2, m3, mo, mc, mz9⟩ := ST.out.move hr9' hRl
            have kr9 := hr9.at_.c2
            have k20 := m2.c0; have k21 := m2.c1; have k22 := m2.c2; have k23 := m2.c3
            have k30 := m3.c0; have k31 := m3.c1; have k32 := m3.c2; have k33 := m3.c3
            have f20 := m2.fr 0; have f21 := m2.fr 1; have f22 := m2.fr 2; have f23 := m2.fr 3
            have M2 := Lib.hid m2
            have R9 := Lib.hid (ST.out.rds.trans hr9')
            clear hr8 hr9 hr9' m2 m3 mo mc
            go_wp2_with fail
            refine ret_cell4 Tryz.results192 w.heap.size rfl rfl (M2.out.set4 _ _ _ _) ?_
            rw [HSP.out, ← hqq.out, HL4.out]
            exact ⟨4, 0, ⟨#[]⟩, VA', acc.len + 1, VC', rfl, R9.out.far4 (Nat.le_refl _) hRl _ _ _ _, fun e => by cases e⟩
        · have HL3 := Lib.hid (HLS2.out.trans (if_neg q44))
          have nq := ne_byte (x := pk s q) 44 44 rfl q44
          obtain ⟨c2, hc2⟩ : ∃ c : Nat, c = (pk s q).toNat := ⟨_, rfl⟩
          rw [← hc2] at nq pq
          obtain ⟨nq1, nq2⟩ := nq
          have PQ := Lib.hid pq
          have HT : Hid (∀ W, RdAt W R s q true → Calls Tryz.prog 224 #[.pointer (some ⟨R, 0, none⟩), .int .u8 125] W fun e w' => e = .returned (.tuple #[]) ∧ Rds W w' R s (lstSp s (k + 1) j acc).1 (lstSp s (k + 1) j acc).2.1) := by
            intro W hW
            have ht := take_c R s q true 125 W hW hs
            by_cases q125 : pk s q = 125
            · have hq2 : q < s.size := pk_lt (by rw [q125]; decide)
              have e1 : tkOk s q true 125 = true := by simp [tkOk, hq2, q125]
              have e2 : tkAt s q true 125 = q + 1 := by unfold tkAt; rw [e1]; rfl
              rw [HL3.out, if_pos q125]
              rw [e1, e2] at ht
              exact ht
            · have e1 : tkOk s q true 125 = false := by simp [tkOk, q125]
              have e2 : tkAt s q true 125 = q := by unfold tkAt; rw [e1]; rfl
              rw [HL3.out, if_neg q125]
              rw [e1, e2] at ht
              exact ht
          have HV : Hid ((lstSp s (k + 1) j acc).2.2 = acc') := by
            show _ = _
            rw [HL3.out]
            split <;> rfl
          clear pq hc2 q44
          go_wp2_with fail
          refine (PQ.out _ h6).mono ?_
          rintro e w7 ⟨rfl, n7, rfl⟩
          go_wp2_with fail
          refine (HT.out _ (h6.drewN n7)).mono ?_
          rintro e w8 ⟨rfl, hr8⟩
          have hr8' : Rds w6 w8 R s (lstSp s (k + 1) j acc).1 (lstSp s (k + 1) j acc).2.1 := ((Rds.of h6).drewN n7).trans hr8
          obtain ⟨m2, m3, mo, mc, mz8⟩ := ST.out.move hr8' hRl
          have k20 := m2.c0; have k21 := m2.c1; have k22 := m2.c2; have k23 := m2.c3
          have k30 := m3.c0; have k31 := m3.c1; have k32 := m3.c2; have k33 := m3.c3
          have f20 := m2.fr 0; have f21 := m2.fr 1; have f22 := m2.fr 2; have f23 := m2.fr 3
          have M2 := Lib.hid m2
          have MO := Lib.hid mo
          have MC := Lib.hid mc
          have R8 := Lib.hid (ST.out.rds.trans hr8')
          have RL := Lib.hid (own_rep (S := fun b => w.heap.size + 2 ≤ b ∧ b < w8.heap.size) mo (mc.keep (fun _ _ => rfl) (fun b hb => ⟨hb.1, hb.2.1⟩)) (fun g hg => ⟨own_ge mo g hg, own_lt mo g hg⟩))
          clear hr8 hr8' m2 m3 mo mc
          go_wp2_with fail
          refine ret_cell4 Tryz.results192 w.heap.size rfl rfl (M2.out.set4 _ _ _ _) ?_
          rw [HSP.out, ← hqq.out, HV.out]
          obtain ⟨sa, sc, hse, hsl, hrp⟩ := RL.out
          injection hse with hs1 hs2 hs3
          subst hs1; subst hs3
          refine ⟨4, 0, ⟨#[]⟩, VA', acc.len + 1, VC', rfl, R8.out.far4 (Nat.le_refl _) hRl _ _ _ _, fun _ => ⟨acc', rfl, HAL.out.symm, hsl, ?_⟩⟩
          exact hrp.keep (fun b hb => heap_set4 _ _ _ _ _ _ _ (by have := hb.1; omega)) (fun b hb => ⟨by have := hb.1; omega, by rw [size_set4]; exact hb.2⟩)
end Go.Proofs.YtggngahmafbihaaGreatDoor
namespace Go.Proofs.YtggngahmafbihaaGreatDoor
open Go.RowKit Go.Lib

/-- A plain value behind the call that makes it. -/
theorem PVal.mk4 {w w6 : World} {R : Nat} {s : ByteArray} {r : Nat × Bool × VL} {k n : Int} {t : ByteArray} (hr : Rds w w6 R s r.1 r.2.1) (hRl : R < w.heap.size) (hv : r.2.2 = val1 k n t .nil) :
    PVal w R s r (.returned (.agg #[.int .i64 k, .int .i64 n, .string t, .slice none 0 0])) ((((w6.setCell ⟨w.heap.size, 0, none⟩ (.int .i64 k)).setCell ⟨w.heap.size, 1, none⟩ (.int .i64 n)).setCell ⟨w.heap.size, 2, none⟩ (.string t)).setCell ⟨w.heap.size, 3, none⟩ (.slice none 0 0)) :=
  ⟨k, n, t, none, 0, 0, rfl, hr.far4 (Nat.le_refl _) hRl _ _ _ _, fun _ => ⟨.nil, hv, rfl, Nat.le_refl _, trivial⟩⟩

set_option maxRecDepth 100000 in
set_option maxHeartbeats 2000000 in
theorem value_step (f : Nat) (ih : ∀ f', f' < f → ValC f') : ValC f := by
  intro R s i w h hs hi hf
  obtain ⟨f, rfl⟩ : ∃ g, f = g + 1 := ⟨f - 1, by omega⟩
  have hRl := h.lt
  obtain ⟨wa, hwa⟩ : ∃ wa, wa = w.alloc (.cells #[.int .i64 0, .int .i64 0, .string ⟨#[]⟩, .slice none 0 0] 28) := ⟨_, rfl⟩
  have hra : Rds w wa R s i true := by rw [hwa]; exact (Rds.of h).alloc _
  have hb2 : StB wa w.heap.size (.int .i64 0) (.int .i64 0) (.string ⟨#[]⟩) (.slice none 0 0) := by rw [hwa]; exact StB.new w _ _ _ _
  have HA := Lib.hid hra
  have HB2 := Lib.hid hb2
  have hwR : some w.heap.size ≠ some R := fun e => by injection e with e; omega
  clear hra hb2
  have pk0 := fun W hW => peek_c R s i true W hW
  obtain ⟨x, hx⟩ : ∃ x, x = pk s i := ⟨_, rfl⟩
  rw [← hx] at pk0
  have PK := Lib.hid pk0
  clear pk0
  by_cases h35 : pk s i = 35
  · have hi2 : i < s.size := pk_lt (by rw [h35]; decide)
    obtain rfl : x = 35 := hx.trans h35
    have HSP := Lib.hid (show valSp s (f + 1) i = ((numSp s (-2147483648) 2147483647 (i + 1)).1, (numSp s (-2147483648) 2147483647 (i + 1)).2.1, val1 1 (numSp s (-2147483648) 2147483647 (i + 1)).2.2 ByteArray.empty .nil) by rw [valSp, if_pos h35])
    have NC := Lib.hid (fun W hW => number_c R s (i + 1) (-2147483648) 2147483647 W hW hs (by omega) (by omega) (by omega) (by omega))
    have ka := HA.out.at_.c1
    have kf := HA.out.at_.fr 1
    clear hx h35
    go_enter Tryz.func158, Tryz.ntmps158
    go_wp2_with fail
    rw [← hwa]
    clear hwa
    refine (PK.out _ HA.out.at_).mono ?_
    rintro e w1 ⟨rfl, n1, rfl⟩
    go_wp2_with fail
    refine (NC.out _ ((HA.out.drewN n1).set1 (i + 1)).at_).mono ?_
    rintro e w2 ⟨rfl, hr2⟩
    go_wp2_with fail
    refine (valO_c _ _).mono ?_
    rintro e w3 ⟨rfl, rfl⟩
    have HR3 := Lib.hid ((((HA.out.drewN n1).set1 (i + 1)).trans hr2).alloc (.cells #[.int .i64 1, .int .i64 (numSp s (-2147483648) 2147483647 (i + 1)).2.2, .string ⟨#[]⟩, .slice none 0 0] 28))
    have M2 := Lib.hid ((((HB2.out.drewN n1).far (p := ⟨R, 1, none⟩) (by show w.heap.size ≠ R; omega) (.int .i64 (i + 1 : Nat))).only hr2.grown hwR).alloc (.cells #[.int .i64 1, .int .i64 (numSp s (-2147483648) 2147483647 (i + 1)).2.2, .string ⟨#[]⟩, .slice none 0 0] 28))
    clear hr2
    have k20 := M2.out.c0; have k21 := M2.out.c1; have k22 := M2.out.c2; have k23 := M2.out.c3
    have f20 := M2.out.fr 0; have f21 := M2.out.fr 1; have f22 := M2.out.fr 2; have f23 := M2.out.fr 3
    go_wp2_with fail
    refine ret_cell4 Tryz.results158 w.heap.size rfl rfl (M2.out.set4 _ _ _ _) ?_
    rw [HSP.out]
    exact PVal.mk4 HR3.out hRl rfl
  obtain ⟨n35, _⟩ := ne_byte (x := x) 35 35 rfl (by rw [hx]; exact h35)
  have hdg := fun W => digit_any x _ rfl W
  by_cases hnum : pk s i = 45 ∨ digB (pk s i) = true
  · have HSP := Lib.hid (show valSp s (f + 1) i = ((numSp s (-9223372036854775808) 9223372036854775807 i).1, (numSp s (-9223372036854775808) 9223372036854775807 i).2.1, val1 0 (numSp s (-9223372036854775808) 9223372036854775807 i).2.2 ByteArray.empty .nil) by rw [valSp, if_neg h35, if_pos hnum])
    have NC := Lib.hid (fun W hW => number_c R s i (-9223372036854775808) 9223372036854775807 W hW hs (by omega) (by omega) (by omega) (by omega))
    by_cases h45 : pk s i = 45
    · obtain rfl : x = 45 := hx.trans h45
      clear hx h45 hnum h35 hdg
      go_enter Tryz.func158, Tryz.ntmps158
      go_wp2_with fail
      rw [← hwa]
      clear hwa
      refine (PK.out _ HA.out.at_).mono ?_
      rintro e w1 ⟨rfl, n1, rfl⟩
      go_wp2_with fail
      refine (NC.out _ (HA.out.at_.drewN n1)).mono ?_
      rintro e w2 ⟨rfl, hr2⟩
      go_wp2_with fail
      refine (valI_c _ _).mono ?_
      rintro e w3 ⟨rfl, rfl⟩
      have HR3 := Lib.hid (((HA.out.drewN n1).trans hr2).alloc (.cells #[.int .i64 0, .int .i64 (numSp s (-9223372036854775808) 9223372036854775807 i).2.2, .string ⟨#[]⟩, .slice none 0 0] 28))
      have M2 := Lib.hid (((HB2.out.drewN n1).only hr2.grown hwR).alloc (.cells #[.int .i64 0, .int .i64 (numSp s (-9223372036854775808) 9223372036854775807 i).2.2, .string ⟨#[]⟩, .slice none 0 0] 28))
      clear hr2
      have k20 := M2.out.c0; have k21 := M2.out.c1; have k22 := M2.out.c2; have k23 := M2.out.c3
      have f20 := M2.out.fr 0; have f21 := M2.out.fr 1; have f22 := M2.out.fr 2; have f23 := M2.out.fr 3
      go_wp2_with fail
      refine ret_cell4 Tryz.results158 w.heap.size rfl rfl (M2.out.set4 _ _ _ _) ?_
      rw [HSP.out]
      exact PVal.mk4 HR3.out hRl rfl
    · have hd : digB x = true := by rw [hx]; exact hnum.resolve_left h45
      obtain ⟨n45, _⟩ := ne_byte (x := x) 45 45 rfl (by rw [hx]; exact h45)
      rw [hd] at hdg
      have DG := Lib.hid hdg
      clear hx h45 hnum h35 hdg hd
      go_enter Tryz.func158, Tryz.ntmps158
      go_wp2_with fail
      rw [← hwa]
      clear hwa
      refine (PK.out _ HA.out.at_).mono ?_
      rintro e w1 ⟨rfl, n1, rfl⟩
      go_wp2_with fail
      refine (DG.out _).mono ?_
      rintro e w' ⟨rfl, rfl⟩
      go_wp2_with fail
      refine (NC.out _ (HA.out.at_.drewN n1)).mono ?_
      rintro e w2 ⟨rfl, hr2⟩
      go_wp2_with fail
      refine (valI_c _ _).mono ?_
      rintro e w3 ⟨rfl, rfl⟩
      have HR3 := Lib.hid (((HA.out.drewN n1).trans hr2).alloc (.cells #[.int .i64 0, .int .i64 (numSp s (-9223372036854775808) 9223372036854775807 i).2.2, .string ⟨#[]⟩, .slice none 0 0] 28))
      have M2 := Lib.hid (((HB2.out.drewN n1).only hr2.grown hwR).alloc (.cells #[.int .i64 0, .int .i64 (numSp s (-9223372036854775808) 9223372036854775807 i).2.2, .string ⟨#[]⟩, .slice none 0 0] 28))
      clear hr2
      have k20 := M2.out.c0; have k21 := M2.out.c1; have k22 := M2.out.c2; have k23 := M2.out.c3
      have f20 := M2.out.fr 0; have f21 := M2.out.fr 1; have f22 := M2.out.fr 2; have f23 := M2.out.fr 3
      go_wp2_with fail
      refine ret_cell4 Tryz.results158 w.heap.size rfl rfl (M2.out.set4 _ _ _ _) ?_
      rw [HSP.out]
      exact PVal.mk4 HR3.out hRl rfl
  have h45 : pk s i ≠ 45 := fun e => hnum (.inl e)
  have hd : digB x = false := by
    rw [hx]
    cases he : digB (pk s i) with
    | false => rfl
    | true => exact absurd (.inr he) hnum
  obtain ⟨n45, _⟩ := ne_byte (x := x) 45 45 rfl (by rw [hx]; exact h45)
  rw [hd] at hdg
  have DG := Lib.hid hdg
  clear hdg hd
  by_cases h34 : pk s i = 34
  · obtain rfl : x = 34 := hx.trans h34
    have HSP := Lib.hid (show valSp s (f + 1) i = ((strSp s i).1, (strSp s i).2.1, val1 2 0 ⟨(strSp s i).2.2.toArray⟩ .nil) by rw [valSp, if_neg h35, if_neg hnum, if_pos h34])
    have SC := Lib.hid (fun W hW => str_c R s i W hW hs h34)
    clear hx h34 hnum h35 h45
    go_enter Tryz.func158, Tryz.ntmps158
    go_wp2_with fail
    rw [← hwa]
    clear hwa
    refine (PK.out _ HA.out.at_).mono ?_
    rintro e w1 ⟨rfl, n1, rfl⟩
    go_wp2_with fail
    refine (DG.out _).mono ?_
    rintro e w' ⟨rfl, rfl⟩
    go_wp2_with fail
    refine (SC.out _ (HA.out.at_.drewN n1)).mono ?_
    rintro e w2 ⟨rfl, hr2⟩
    go_wp2_with fail
    refine (valS_c _ _).mono ?_
    rintro e w3 ⟨rfl, rfl⟩
    have HR3 := Lib.hid (((HA.out.drewN n1).trans hr2).alloc (.cells #[.int .i64 2, .int .i64 0, .string ⟨(strSp s i).2.2.toArray⟩, .slice none 0 0] 28))
    have M2 := Lib.hid (((HB2.out.drewN n1).only hr2.grown hwR).alloc (.cells #[.int .i64 2, .int .i64 0, .string ⟨(strSp s i).2.2.toArray⟩, .slice none 0 0] 28))
    clear hr2
    have k20 := M2.out.c0; have k21 := M2.out.c1; have k22 := M2.out.c2; have k23 := M2.out.c3
    have f20 := M2.out.fr 0; have f21 := M2.out.fr 1; have f22 := M2.out.fr 2; have f23 := M2.out.fr 3
    go_wp2_with fail
    refine ret_cell4 Tryz.results158 w.heap.size rfl rfl (M2.out.set4 _ _ _ _) ?_
    rw [HSP.out]
    exact PVal.mk4 HR3.out hRl rfl
  obtain ⟨n34, _⟩ := ne_byte (x := x) 34 34 rfl (by rw [hx]; exact h34)
  by_cases h123 : pk s i = 123
  · obtain rfl : x = 123 := hx.trans h123
    have hi2 : i < s.size := pk_lt (by rw [h123]; decide)
    have HSP := Lib.hid (show valSp s (f + 1) i = brSp s f i by rw [valSp, if_neg h35, if_neg hnum, if_neg h34, if_pos h123]; rfl)
    have LC := Lib.hid (fun W hW => list_c f (fun f' hf' => ih f' (by omega)) R s i W hW hs h123 (by omega))
    clear hx h34 hnum h35 h45 h123 ih
    go_enter Tryz.func158, Tryz.ntmps158
    go_wp2_with fail
    rw [← hwa]
    clear hwa
    refine (PK.out _ HA.out.at_).mono ?_
    rintro e w1 ⟨rfl, n1, rfl⟩
    go_wp2_with fail
    refine (DG.out _).mono ?_
    rintro e w' ⟨rfl, rfl⟩
    go_wp2_with fail
    refine (LC.out _ (HA.out.at_.drewN n1)).mono ?_
    rintro e w2 hpv
    obtain ⟨vk, vn, vt, va, vl, vc, rfl, hr2, hval⟩ := hpv
    have HR2 := Lib.hid ((HA.out.drewN n1).trans hr2)
    have hgz : wa.heap.size ≤ w2.heap.size := hr2.grown.size
    have M2 := Lib.hid ((HB2.out.drewN n1).only hr2.grown hwR)
    have hbz := HB2.out.lt
    have HV := Lib.hid hval
    clear hr2 hval
    have k20 := M2.out.c0; have k21 := M2.out.c1; have k22 := M2.out.c2; have k23 := M2.out.c3
    have f20 := M2.out.fr 0; have f21 := M2.out.fr 1; have f22 := M2.out.fr 2; have f23 := M2.out.fr 3
    go_wp2_with fail
    refine ret_cell4 Tryz.results158 w.heap.size rfl rfl (M2.out.set4 _ _ _ _) ?_
    rw [HSP.out]
    refine ⟨vk, vn, vt, va, vl, vc, rfl, HR2.out.far4 (Nat.le_refl _) hRl _ _ _ _, fun hok => ?_⟩
    obtain ⟨sub, h1, h2, h3, h4⟩ := HV.out hok
    refine ⟨sub, h1, h2, h3, h4.keep (fun b hb => heap_set4 _ _ _ _ _ _ _ (by have : wa.heap.size ≤ b := hb.1; omega)) (fun b hb => ⟨by have : wa.heap.size ≤ b := hb.1; omega, by rw [size_set4]; exact hb.2⟩)⟩
  obtain ⟨n123, _⟩ := ne_byte (x := x) 123 123 rfl (by rw [hx]; exact h123)
  have HSP := Lib.hid (show valSp s (f + 1) i = ((codeSp s i).1, (codeSp s i).2.1, val1 3 (codeSp s i).2.2 ByteArray.empty .nil) by rw [valSp, if_neg h35, if_neg hnum, if_neg h34, if_neg h123])
  have CC := Lib.hid (fun W hW => code_c R s i W hW hs hi)
  clear hx h34 hnum h35 h45 h123
  go_enter Tryz.func158, Tryz.ntmps158
  go_wp2_with fail
  rw [← hwa]
  clear hwa
  refine (PK.out _ HA.out.at_).mono ?_
  rintro e w1 ⟨rfl, n1, rfl⟩
  go_wp2_with fail
  refine (DG.out _).mono ?_
  rintro e w' ⟨rfl, rfl⟩
  go_wp2_with fail
  refine (CC.out _ (HA.out.at_.drewN n1)).mono ?_
  rintro e w2 ⟨rfl, hr2⟩
  go_wp2_with fail
  refine (valE_c _ _).mono ?_
  rintro e w3 ⟨rfl, rfl⟩
  have HR3 := Lib.hid (((HA.out.drewN n1).trans hr2).alloc (.cells #[.int .i64 3, .int .i64 (codeSp s i).2.2, .string ⟨#[]⟩, .slice none 0 0] 28))
  have M2 := Lib.hid (((HB2.out.drewN n1).only hr2.grown hwR).alloc (.cells #[.int .i64 3, .int .i64 (codeSp s i).2.2, .string ⟨#[]⟩, .slice none 0 0] 28))
  clear hr2
  have k20 := M2.out.c0; have k21 := M2.out.c1; have k22 := M2.out.c2; have k23 := M2.out.c3
  have f20 := M2.out.fr 0; have f21 := M2.out.fr 1; have f22 := M2.out.fr 2; have f23 := M2.out.fr 3
  go_wp2_with fail
  refine ret_cell4 Tryz.results158 w.heap.size rfl rfl (M2.out.set4 _ _ _ _) ?_
  rw [HSP.out]
  exact PVal.mk4 HR3.out hRl rfl

theorem value_c (f : Nat) : ValC f := by
  induction f using Nat.strongRecOn with
  | _ f ih => exact value_step f ih
end Go.Proofs.YtggngahmafbihaaGreatDoor
