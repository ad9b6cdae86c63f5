/- Contracts of the functions that the statement reaches, and the plain mathematics beneath: several texts joined. -/
import Derived.Test.YtjibjgokloondaaGreatDoorParN
import Derived.Test.YtjibjgokloondaaGreatDoorParD
import Derived.Deep.RegionLaw
import Derived.Deep.AppendLies
import Derived.Shelf.GgClosure.Gives
import Derived.Test.YtjibjgokloondaaGreatDoorShelf
import Derived.Sort.Grow
import Derived.Sort.Row
import Derived.Maps.AppendAt
import Derived.Test.YtjibjgokloondaaGreatDoorParA
import Derived.Test.YtjibjgokloondaaGreatDoorParB
import Derived.Test.YtjibjgokloondaaGreatDoorParC
import Derived.Test.YtjibjgokloondaaGreatDoorParE
import Derived.Test.YtjibjgokloondaaGreatDoorParF
import Derived.Test.YtjibjgokloondaaGreatDoorParG
import Derived.Test.YtjibjgokloondaaGreatDoorParH
import Derived.Test.YtjibjgokloondaaGreatDoorParI
import Derived.Test.YtjibjgokloondaaGreatDoorParJ
import Derived.Test.YtjibjgokloondaaGreatDoorParK
import Derived.Test.YtjibjgokloondaaGreatDoorParL
import Derived.Test.YtjibjgokloondaaGreatDoorParM
namespace Go.Proofs.YtjibjgokloondaaGreatDoor
open Go.RowKit Go.Lib
set_option linter.unusedVariables false

theorem drop_pk {s : ByteArray} {i : Nat} (h : i < s.size) : s.data.toList.drop i = pk s i :: s.data.toList.drop (i + 1) := by
  have hl : i < s.data.toList.length := by rw [Array.length_toList]; exact h
  rw [List.drop_eq_getElem_cons hl]
  unfold pk
  rw [List.getD_eq_getElem?_getD, List.getElem?_eq_getElem hl]; rfl

theorem strLoop_inv (s : ByteArray) : ∀ (f i : Nat) (acc : List UInt8) (j : Nat) (l' : List UInt8), strLoop s f i acc = (j, true, l') → ∃ l, l' = acc ++ l ∧ prB l = true ∧ s.data.toList.drop i = escL l ++ s.data.toList.drop j
  | 0, i, acc, j, l', h => by
    unfold strLoop at h
    simp only [Prod.mk.injEq, true_and] at h
    obtain ⟨rfl, rfl⟩ := h
    exact ⟨[], by simp, rfl, rfl⟩
  | f + 1, i, acc, j, l', h => by
    by_cases h34 : pk s i = 34
    · rw [strLoop_end _ _ _ _ h34] at h
      simp only [Prod.mk.injEq, true_and] at h
      obtain ⟨rfl, rfl⟩ := h
      exact ⟨[], by simp, rfl, rfl⟩
    by_cases h92 : pk s i = 92
    · by_cases hy : pk s (i + 1) = 34 ∨ pk s (i + 1) = 92
      · rw [strLoop_esc _ _ _ _ h92 hy] at h
        obtain ⟨l, h1, h2, h3⟩ := strLoop_inv s f (i + 2) _ j l' h
        have hi : i < s.size := pk_lt (by rw [h92]; decide)
        have hi2 : i + 1 < s.size := pk_lt (by rcases hy with e | e <;> rw [e] <;> decide)
        refine ⟨pk s (i + 1) :: l, by rw [h1, List.append_assoc]; rfl, ?_, ?_⟩
        · unfold prB at h2 ⊢
          rw [List.all_cons, h2, Bool.and_true]
          rcases hy with e | e <;> rw [e] <;> decide
        · rw [drop_pk hi, drop_pk hi2, h92, h3, escL, if_pos hy]; rfl
      · rw [strLoop_esc_bad _ _ _ _ h92 hy] at h; simp at h
    cases hp : prC (pk s i) with
    | false => rw [strLoop_bad _ _ _ _ h34 h92 hp] at h; simp at h
    | true =>
      rw [strLoop_next _ _ _ _ h34 h92 hp] at h
      obtain ⟨l, h1, h2, h3⟩ := strLoop_inv s f (i + 1) _ j l' h
      have hi : i < s.size := pk_lt (fun e => by rw [e] at hp; exact absurd hp (by decide))
      refine ⟨pk s i :: l, by rw [h1, List.append_assoc]; rfl, ?_, ?_⟩
      · unfold prB at h2 ⊢
        rw [List.all_cons, h2, Bool.and_true]; exact hp
      · rw [drop_pk hi, h3, escL, if_neg (by rintro (e | e); exact h34 e; exact h92 e)]; rfl
theorem strSp_inv {s : ByteArray} {i j : Nat} {l : List UInt8} (hi : i < s.size) (h34 : pk s i = 34) (h : strSp s i = (j, true, l)) : s.data.toList.drop i = quoL l ++ s.data.toList.drop j ∧ prB l = true := by
  unfold strSp at h
  obtain ⟨q, hq⟩ : ∃ q, q = strLoop s (s.size + 1) (i + 1) [] := ⟨_, rfl⟩
  have hpl := (strLoop_place s (s.size + 1) (i + 1) [] (by omega)).2.2 (by omega) (by omega)
  rw [← hq] at h hpl
  obtain ⟨j', ok, l'⟩ := q
  simp only [Prod.mk.injEq] at h
  obtain ⟨h1, rfl, rfl⟩ := h
  rw [if_pos rfl] at h1
  subst h1
  have hend := hpl rfl
  obtain ⟨l2, h2, h3, h4⟩ := strLoop_inv s _ _ _ j' l' hq.symm
  rw [List.nil_append] at h2
  subst h2
  have hj : j' < s.size := pk_lt (by rw [hend]; decide)
  refine ⟨?_, h3⟩
  rw [drop_pk hi, h34, h4, drop_pk hj, hend, quoL]
  simp

end Go.Proofs.YtjibjgokloondaaGreatDoor
namespace Go.Proofs.YtjibjgokloondaaGreatDoor
open Go.RowKit Go.Lib
set_option linter.unusedVariables false

def smB (c : UInt8) : Bool := decide (97 ≤ c.toNat ∧ c.toNat ≤ 122) || c == 95
def gtB (c : UInt8) : Bool := decide (65 ≤ c.toNat ∧ c.toNat ≤ 90)
/-- How many bytes from a place on are of a sort; with fuel. -/
def runN (s : ByteArray) (p : UInt8 → Bool) : Nat → Nat → Nat
  | 0, _ => 0
  | f + 1, i => if i < s.size ∧ p (pk s i) = true then runN s p f (i + 1) + 1 else 0
def run (s : ByteArray) (p : UInt8 → Bool) (i : Nat) : Nat := runN s p (s.size + 1) i
theorem runN_le (s : ByteArray) (p : UInt8 → Bool) : ∀ (f i : Nat), i ≤ s.size → i + runN s p f i ≤ s.size
  | 0, i, h => h
  | f + 1, i, h => by
    unfold runN
    split
    · rename_i hc
      have := runN_le s p f (i + 1) (by omega)
      omega
    · exact h

/-- What one word is: an error, or a word of so many bytes. -/
inductive WR where
  | bad (c : Nat)
  | word (n : Nat) (t : Tok)

/-- The keys, and the signs, rising. -/
def keysL : List ByteArray := [⟨#[97, 110, 121]⟩, ⟨#[98, 114, 101, 97, 107]⟩, ⟨#[99, 111, 110, 116, 105, 110, 117, 101]⟩, ⟨#[101, 108, 115, 101]⟩, ⟨#[101, 108, 115, 101, 105, 102]⟩, ⟨#[101, 110, 100, 102, 111, 114]⟩, ⟨#[101, 110, 100, 102, 111, 114, 107]⟩, ⟨#[101, 110, 100, 105, 102]⟩, ⟨#[101, 110, 100, 116, 114, 121]⟩, ⟨#[101, 110, 100, 119, 104, 105, 108, 101]⟩, ⟨#[101, 120, 99, 101, 112, 116]⟩, ⟨#[102, 105, 110, 97, 108, 108, 121]⟩, ⟨#[102, 111, 114]⟩, ⟨#[102, 111, 114, 107]⟩, ⟨#[105, 102]⟩, ⟨#[105, 110]⟩, ⟨#[114, 101, 116, 117, 114, 110]⟩, ⟨#[116, 114, 121]⟩, ⟨#[119, 104, 105, 108, 101]⟩]
def signsL : List ByteArray := [⟨#[33]⟩, ⟨#[33, 61]⟩, ⟨#[36]⟩, ⟨#[37]⟩, ⟨#[38, 38]⟩, ⟨#[39]⟩, ⟨#[40]⟩, ⟨#[41]⟩, ⟨#[42]⟩, ⟨#[43]⟩, ⟨#[44]⟩, ⟨#[45]⟩, ⟨#[46]⟩, ⟨#[46, 46]⟩, ⟨#[47]⟩, ⟨#[58]⟩, ⟨#[59]⟩, ⟨#[60]⟩, ⟨#[60, 61]⟩, ⟨#[61]⟩, ⟨#[61, 61]⟩, ⟨#[61, 62]⟩, ⟨#[62]⟩, ⟨#[62, 61]⟩, ⟨#[63]⟩, ⟨#[64]⟩, ⟨#[91]⟩, ⟨#[93]⟩, ⟨#[96]⟩, ⟨#[123]⟩, ⟨#[124]⟩, ⟨#[124, 124]⟩, ⟨#[125]⟩]

/-- A number from a place on: the number and its digits, or an error. -/
def dgsSp (s : ByteArray) (i : Nat) : Nat ⊕ (Int × Nat) :=
  let n := run s digB i
  if n = 0 ∨ (1 < n ∧ pk s i = 48) ∨ (i + n < s.size ∧ (smB (pk s (i + n)) = true ∨ gtB (pk s (i + n)) = true)) then .inl 111
  else if 9223372036854775807 < dval 0 (s.extract i (i + n)).data.toList then .inl 105
  else .inr (dval 0 (s.extract i (i + n)).data.toList, n)

/-- Where a text in quotes ends: behind its second quote; none: it does not on its line. -/
def quoEnd (s : ByteArray) : Nat → Nat → Option Nat
  | 0, _ => none
  | f + 1, i =>
    if i < s.size ∧ prC (pk s i) = true then
      if pk s i = 34 then some (i + 1)
      else if pk s i = 92 then quoEnd s f (i + 2)
      else quoEnd s f (i + 1)
    else none
/-- A text in quotes, whole, as a value; or why it is none. -/
def strW (sub : ByteArray) : Nat ⊕ ByteArray :=
  let r := strSp sub 0
  if r.2.1 = true ∧ sub.size ≤ r.1 then (if 4096 ≤ r.2.2.length then .inl 105 else .inr ⟨r.2.2.toArray⟩) else .inl 111
/-- The longest sign that stands at a place. -/
def signAt (s : ByteArray) (i : Nat) : List ByteArray → ByteArray → ByteArray
  | [], b => b
  | x :: l, b => signAt s i l (if b.size < x.size ∧ x.data.toList.isPrefixOf (s.data.toList.drop i) = true then x else b)
/-- One word, that is no space and no end of a line. -/
def wordR (s : ByteArray) (i : Nat) (line : Int) : WR :=
  let c := pk s i
  if smB c = true then
    let n := run s (fun c => smB c || digB c) i
    if 32 < n ∨ (i + n < s.size ∧ gtB (pk s (i + n)) = true) then .bad 111
    else .word n ⟨if keysL.contains (s.extract i (i + n)) then 2 else 1, line, s.extract i (i + n), 0, 0, ⟨#[]⟩⟩
  else if digB c = true then
    match dgsSp s i with
    | .inl e => .bad e
    | .inr (v, n) => .word n ⟨3, line, ⟨#[]⟩, 0, v, ⟨#[]⟩⟩
  else if gtB c = true then
    let n := run s (fun c => gtB c || c == 95) i
    let k := codeOf (s.extract i (i + n))
    if k < 0 ∨ (i + n < s.size ∧ (smB (pk s (i + n)) = true ∨ digB (pk s (i + n)) = true)) then .bad 111
    else .word n ⟨3, line, ⟨#[]⟩, 3, k, ⟨#[]⟩⟩
  else if c = 35 then
    let neg := pk s (i + 1) == 45
    let j := if neg then i + 2 else i + 1
    match dgsSp s j with
    | .inl e => .bad e
    | .inr (v, n) =>
      if neg = true ∧ v = 0 then .bad 111
      else
        let v := if neg then -v else v
        if v < -2147483648 ∨ 2147483647 < v then .bad 105 else .word (j + n - i) ⟨3, line, ⟨#[]⟩, 1, v, ⟨#[]⟩⟩
  else if c = 34 then
    match quoEnd s (s.size + 1) (i + 1) with
    | none => .bad 111
    | some j =>
      match strW (s.extract i j) with
      | .inl e => .bad e
      | .inr t => .word (j - i) ⟨3, line, ⟨#[]⟩, 2, 0, t⟩
  else
    let b := signAt s i signsL ⟨#[]⟩
    if b.size = 0 then .bad 111 else .word b.size ⟨4, line, b, 0, 0, ⟨#[]⟩⟩
/-- All words of a text, from a place and a line on; or the error and its line. -/
def allSp (s : ByteArray) : Nat → Nat → Int → List Tok → (Nat × Int) ⊕ List Tok
  | 0, _, _, out => .inr out
  | f + 1, i, line, out =>
    if i < s.size then
      if pk s i = 10 then allSp s f (i + 1) (line + 1) out
      else if pk s i = 32 then allSp s f (i + 1) line out
      else match wordR s i line with
        | .bad c => .inl (c, line)
        | .word n t => allSp s f (i + n) line (out ++ [t])
    else .inr out
def allW (s : ByteArray) : (Nat × Int) ⊕ List Tok := allSp s (s.size + 1) 0 1 []
end Go.Proofs.YtjibjgokloondaaGreatDoor
namespace Go.Proofs.YtjibjgokloondaaGreatDoor
open Go.RowKit Go.Lib
set_option linter.unusedVariables false

/-- A word as it lies in memory: seven cells; of the last one's row only its length is known. -/
abbrev TokM := Tok × (Option Addr × Nat)
def tk7 (p : TokM) : List Value := [.int .i64 p.1.kind, .int .i64 p.1.line, .string p.1.s, .int .i64 p.1.k, .int .i64 p.1.n, .string p.1.t, .slice p.2.1 0 p.2.2]
def tkCells : List TokM → List Value
  | [] => []
  | p :: l => tk7 p ++ tkCells l
theorem tkCells_app : ∀ (a b : List TokM), tkCells (a ++ b) = tkCells a ++ tkCells b
  | [], b => rfl
  | p :: a, b => by rw [List.cons_append, tkCells, tkCells, tkCells_app a b, List.append_assoc]
/-- lex's reader at block R. -/
def LxAt (w : World) (R : Nat) (s : ByteArray) (i : Nat) (line : Int) (v : Value) : Prop :=
  w.heap[R]? = some (.cells #[.string s, .int .i64 i, .int .i64 line, v] 69 (0, 0))
section
variable {w w' : World} {R : Nat} {s : ByteArray} {i : Nat} {line : Int} {v : Value}
theorem LxAt.lt (h : LxAt w R s i line v) : R < w.heap.size := by
  rcases Nat.lt_or_ge R w.heap.size with hlt | hge
  · exact hlt
  · unfold LxAt at h; rw [Array.getElem?_eq_none hge] at h; cases h
theorem LxAt.c0 (h : LxAt w R s i line v) : w.cell? ⟨R, 0, none⟩ = some (.string s) := cell_of_row w R 0 _ _ _ h
theorem LxAt.c1 (h : LxAt w R s i line v) : w.cell? ⟨R, 1, none⟩ = some (.int .i64 i) := cell_of_row w R 1 _ _ _ h
theorem LxAt.c2 (h : LxAt w R s i line v) : w.cell? ⟨R, 2, none⟩ = some (.int .i64 line) := cell_of_row w R 2 _ _ _ h
theorem LxAt.c3 (h : LxAt w R s i line v) : w.cell? ⟨R, 3, none⟩ = some v := cell_of_row w R 3 _ _ _ h
theorem LxAt.fr (h : LxAt w R s i line v) (k : Nat) : w.frozen? ⟨R, k, none⟩ = false := by unfold LxAt at h; simp [World.frozen?, h]
theorem LxAt.drewN (h : LxAt w R s i line v) (n : Nat) : LxAt (w.drewN n) R s i line v := h
theorem LxAt.drew (h : LxAt w R s i line v) : LxAt w.drew R s i line v := h
theorem LxAt.alloc (h : LxAt w R s i line v) (o : Obj) : LxAt (w.alloc o) R s i line v := (Below.heap_alloc w o R h.lt).trans h
theorem LxAt.set1 (h : LxAt w R s i line v) (j : Nat) : LxAt (w.setCell ⟨R, 1, none⟩ (.int .i64 j)) R s j line v := by
  unfold LxAt at h ⊢; simp [World.setCell, Array.getElem?_modify, h]
theorem LxAt.set2 (h : LxAt w R s i line v) (j : Int) : LxAt (w.setCell ⟨R, 2, none⟩ (.int .i64 j)) R s i j v := by
  unfold LxAt at h ⊢; simp [World.setCell, Array.getElem?_modify, h]
theorem LxAt.set3 (h : LxAt w R s i line v) (u : Value) : LxAt (w.setCell ⟨R, 3, none⟩ u) R s i line u := by
  unfold LxAt at h ⊢; simp [World.setCell, Array.getElem?_modify, h]
theorem LxAt.far (h : LxAt w R s i line v) {p : Addr} (hp : R ≠ p.block) (u : Value) : LxAt (w.setCell p u) R s i line v := (Below.heap_setCell w p u R hp).trans h
theorem LxAt.below {B : Nat} (h : LxAt w R s i line v) (hb : Below B w w') (hB : R < B) : LxAt w' R s i line v := (hb.block R hB).trans h
theorem LxAt.only (h : LxAt w R s i line v) {row : Option Nat} (hg : w.grownBy w' row) (hr : some R ≠ row) : LxAt w' R s i line v := (hg.block R h.lt hr).trans h
end

/-- Where lex's reader stands, and what it has read. -/
def LxSt (w : World) (R : Nat) (s : ByteArray) (i : Nat) (line : Int) (l : List Tok) : Prop :=
  ∃ (v : Value) (L : List TokM), LxAt w R s i line v ∧ w.ownsRow (R + 1) 75 7 v L.length (tkCells L) ∧ L.map (·.1) = l ∧ L.length ≤ i ∧ i ≤ s.size
theorem LxSt.below_self {w w' : World} {R : Nat} {s : ByteArray} {i : Nat} {line : Int} {l : List Tok} (h : LxSt w R s i line l) (hg : Below w.heap.size w w') : LxSt w' R s i line l := by
  obtain ⟨v, L, a, b, c, d, e⟩ := h
  refine ⟨v, L, a.below hg a.lt, b.kept (only_below hg none) ?_, c, d, e⟩
  cases v.ownBlock with
  | none => exact .inl rfl
  | some k => exact .inr (by simp)
theorem LxSt.drew {w : World} {R : Nat} {s : ByteArray} {i : Nat} {line : Int} {l : List Tok} (h : LxSt w R s i line l) : LxSt w.drew R s i line l := h.below_self (Below.drew (Below.refl _ _))
theorem LxSt.drewN {w : World} {R : Nat} {s : ByteArray} {i : Nat} {line : Int} {l : List Tok} (h : LxSt w R s i line l) (n : Nat) : LxSt (w.drewN n) R s i line l := h.below_self ⟨rfl, rfl, rfl, Nat.le_refl _, fun _ _ => rfl⟩
theorem LxSt.lt {w : World} {R : Nat} {s : ByteArray} {i : Nat} {line : Int} {l : List Tok} (h : LxSt w R s i line l) : R < w.heap.size := by obtain ⟨v, L, a, _⟩ := h; exact a.lt
/-- The place moves on. -/
theorem LxSt.move {w : World} {R : Nat} {s : ByteArray} {i : Nat} {line : Int} {l : List Tok} (h : LxSt w R s i line l) (j : Nat) (hj : i ≤ j) (hs : j ≤ s.size) : LxSt (w.setCell ⟨R, 1, none⟩ (.int .i64 j)) R s j line l := by
  obtain ⟨v, L, a, b, c, d, e⟩ := h
  refine ⟨v, L, a.set1 j, ownsRow_setCell_below b (by show R < R + 1; omega) _, c, by omega, hs⟩
theorem LxSt.newline {w : World} {R : Nat} {s : ByteArray} {i : Nat} {line : Int} {l : List Tok} (h : LxSt w R s i line l) (j : Int) : LxSt (w.setCell ⟨R, 2, none⟩ (.int .i64 j)) R s i j l := by
  obtain ⟨v, L, a, b, c, d, e⟩ := h
  exact ⟨v, L, a.set2 j, ownsRow_setCell_below b (by show R < R + 1; omega) _, c, d, e⟩

set_option maxHeartbeats 400000 in
theorem small_c (c : UInt8) (w : World) : Calls Tryz.prog 47 #[.int .u8 c.toNat] w fun e w' => e = .returned (.bool (smB c)) ∧ w = w' := by
  have h95 : (((c.toNat : Int) == 95) = true ∧ c = 95) ∨ (((c.toNat : Int) == 95) = false ∧ (c == 95) = false) := by
    by_cases e : c = 95
    · subst e; exact .inl ⟨by decide, rfl⟩
    · refine .inr ⟨?_, by simpa using e⟩
      rw [beq_eq_false_iff_ne]; intro h; exact e (UInt8.toNat_inj.1 (by show c.toNat = 95; omega))
  by_cases h1 : 97 ≤ (c.toNat : Int)
  · by_cases h2 : (c.toNat : Int) ≤ 122
    · have hh := Lib.hid (show smB c = true by unfold smB; rw [Bool.or_eq_true, decide_eq_true_eq]; exact .inl ⟨by omega, by omega⟩)
      clear h95
      go_enter Tryz.func47, Tryz.ntmps47
      go_wp2
      go_ret
      exact ⟨ret_bool hh.out.symm, rfl⟩
    · have h2' : 122 < (c.toNat : Int) := by omega
      have hd : ((c.toNat : Int) == 95) = false := by rw [beq_eq_false_iff_ne]; omega
      have hh := Lib.hid (show smB c = false by
        unfold smB; rw [Bool.or_eq_false_iff, decide_eq_false_iff_not]
        refine ⟨by omega, ?_⟩
        rw [beq_eq_false_iff_ne]; rintro rfl; exact absurd h2' (by decide))
      clear h95
      go_enter Tryz.func47, Tryz.ntmps47
      go_wp2
      go_ret
      exact ⟨ret_bool hh.out.symm, rfl⟩
  · have h1' : (c.toNat : Int) < 97 := by omega
    rcases h95 with ⟨hd, rfl⟩ | ⟨hd, he⟩
    · clear h1 h1' hd
      go_enter Tryz.func47, Tryz.ntmps47
      go_wp2
      go_ret
      exact ⟨rfl, rfl⟩
    · have hh := Lib.hid (show smB c = false by
        unfold smB; rw [Bool.or_eq_false_iff, decide_eq_false_iff_not]
        exact ⟨by omega, he⟩)
      clear he
      go_enter Tryz.func47, Tryz.ntmps47
      go_wp2
      go_ret
      exact ⟨ret_bool hh.out.symm, rfl⟩

set_option maxHeartbeats 400000 in
theorem great_c (c : UInt8) (w : World) : Calls Tryz.prog 51 #[.int .u8 c.toNat] w fun e w' => e = .returned (.bool (gtB c)) ∧ w = w' := by
  by_cases h1 : 65 ≤ (c.toNat : Int)
  · by_cases h2 : (c.toNat : Int) ≤ 90
    · have hh := Lib.hid (show gtB c = true from decide_eq_true (by omega))
      go_enter Tryz.func51, Tryz.ntmps51
      go_wp2
      go_ret
      exact ⟨ret_bool hh.out.symm, rfl⟩
    · have hh := Lib.hid (show gtB c = false from decide_eq_false (by omega))
      have h2' : 90 < (c.toNat : Int) := by omega
      go_enter Tryz.func51, Tryz.ntmps51
      go_wp2
      go_ret
      exact ⟨ret_bool hh.out.symm, rfl⟩
  · have hh := Lib.hid (show gtB c = false from decide_eq_false (by omega))
    have h1' : (c.toNat : Int) < 65 := by omega
    go_enter Tryz.func51, Tryz.ntmps51
    go_wp2
    go_ret
    exact ⟨ret_bool hh.out.symm, rfl⟩

set_option maxHeartbeats 400000 in
theorem ldigit_c (c : UInt8) (w : World) : Calls Tryz.prog 49 #[.int .u8 c.toNat] w fun e w' => e = .returned (.bool (digB c)) ∧ w = w' := by
  by_cases h1 : 48 ≤ (c.toNat : Int)
  · by_cases h2 : (c.toNat : Int) ≤ 57
    · have hh := Lib.hid (show digB c = true from decide_eq_true (by omega))
      go_enter Tryz.func49, Tryz.ntmps49
      go_wp2
      go_ret
      exact ⟨ret_bool hh.out.symm, rfl⟩
    · have hh := Lib.hid (show digB c = false from decide_eq_false (by omega))
      have h2' : 57 < (c.toNat : Int) := by omega
      go_enter Tryz.func49, Tryz.ntmps49
      go_wp2
      go_ret
      exact ⟨ret_bool hh.out.symm, rfl⟩
  · have hh := Lib.hid (show digB c = false from decide_eq_false (by omega))
    have h1' : (c.toNat : Int) < 48 := by omega
    go_enter Tryz.func49, Tryz.ntmps49
    go_wp2
    go_ret
    exact ⟨ret_bool hh.out.symm, rfl⟩

/-- What a function that is handed to run is to answer. -/
def IsP (g : Nat) (p : UInt8 → Bool) : Prop := ∀ (c : UInt8) (W : World), Calls Tryz.prog g #[.int .u8 c.toNat] W fun e w' => e = .returned (.bool (p c)) ∧ W = w'
theorem digit_is : IsP 49 digB := ldigit_c
theorem name_is : IsP 68 (fun c => smB c || digB c) := by
  intro c w
  cases hs : smB c with
  | true =>
    have S := Lib.hid (small_c c w)
    rw [hs] at S
    have HH := Lib.hid (show (smB c || digB c) = true by rw [hs]; rfl)
    clear hs
    go_enter Tryz.func68, Tryz.ntmps68
    go_wp2_with fail
    refine S.out.mono ?_
    rintro e w' ⟨rfl, rfl⟩
    go_wp2_with fail
    go_ret
    exact ⟨ret_bool HH.out.symm, rfl⟩
  | false =>
    have S := Lib.hid (small_c c w)
    have D := Lib.hid (ldigit_c c w)
    rw [hs] at S
    have HH := Lib.hid (show (smB c || digB c) = digB c by rw [hs]; rfl)
    clear hs
    go_enter Tryz.func68, Tryz.ntmps68
    go_wp2_with fail
    refine S.out.mono ?_
    rintro e w' ⟨rfl, rfl⟩
    go_wp2_with fail
    refine D.out.mono ?_
    rintro e w' ⟨rfl, rfl⟩
    go_wp2_with fail
    go_ret
    exact ⟨ret_bool HH.out.symm, rfl⟩
theorem code_is : IsP 74 (fun c => gtB c || c == 95) := by
  intro c w
  cases hs : gtB c with
  | true =>
    have S := Lib.hid (great_c c w)
    rw [hs] at S
    have HH := Lib.hid (show (gtB c || c == 95) = true by rw [hs]; rfl)
    clear hs
    go_enter Tryz.func74, Tryz.ntmps74
    go_wp2_with fail
    refine S.out.mono ?_
    rintro e w' ⟨rfl, rfl⟩
    go_wp2_with fail
    go_ret
    exact ⟨ret_bool HH.out.symm, rfl⟩
  | false =>
    have S := Lib.hid (great_c c w)
    rw [hs] at S
    have HH := Lib.hid (show (gtB c || c == 95) = (c == 95) by rw [hs]; rfl)
    clear hs
    have h95 : ((c.toNat : Int) == 95) = (c == 95) := by
      rw [Bool.eq_iff_iff, beq_iff_eq, beq_iff_eq]
      constructor
      · intro h; exact UInt8.toNat_inj.1 (by show c.toNat = 95; omega)
      · rintro rfl; rfl
    have H := Lib.hid h95
    clear h95
    go_enter Tryz.func74, Tryz.ntmps74
    go_wp2_with fail
    refine S.out.mono ?_
    rintro e w' ⟨rfl, rfl⟩
    go_wp2_with fail
    go_ret
    exact ⟨ret_bool (H.out.trans HH.out.symm), rfl⟩
end Go.Proofs.YtjibjgokloondaaGreatDoor
namespace Go.Proofs.YtjibjgokloondaaGreatDoor
open Go.RowKit Go.Lib
set_option linter.unusedVariables false

theorem runN_step {s : ByteArray} {p : UInt8 → Bool} {f i : Nat} (h : i < s.size) (hp : p (pk s i) = true) : runN s p (f + 1) i = runN s p f (i + 1) + 1 := by
  rw [runN, if_pos ⟨h, hp⟩]
theorem runN_stop {s : ByteArray} {p : UInt8 → Bool} {f i : Nat} (h : i < s.size → p (pk s i) = false) : runN s p f i = 0 := by
  cases f with
  | zero => rfl
  | succ f =>
    rw [runN, if_neg]
    rintro ⟨a, b⟩
    rw [h a] at b; cases b

set_option maxRecDepth 100000 in
set_option maxHeartbeats 1000000 in
theorem run_c (g : Nat) (p : UInt8 → Bool) (eg : ∀ args w, (callFunc g args).run Tryz.prog w = .ok (.enter g args) w) (hp : IsP g p) (R : Nat) (s : ByteArray) (i0 : Nat) (line : Int) (v : Value) (i : Nat) (w : World) (h : LxAt w R s i0 line v) (hi : i ≤ s.size) (hs : s.size ≤ 1000000000) :
    Calls Tryz.prog 67 #[.pointer (some ⟨R, 0, none⟩), .int .i64 i, .func (.func g) #[] #[]] w fun e w' => e = .returned (.int .i64 (run s p i)) ∧ ∃ n, w' = w.drewN n := by
  have hc := h.c0
  obtain ⟨r, hr⟩ : ∃ r, r = run s p i := ⟨_, rfl⟩
  have HR := Lib.hid hr
  rw [← hr]
  clear hr h
  go_enter Tryz.func67, Tryz.ntmps67
  go_wp2_with fail
  go_loopg [7] (s.size + 1) (fun k nv wr => ∃ n : Nat, nv = .int .i64 (n : Int) ∧ i + n ≤ s.size ∧ n + k = s.size + 1 ∧ w = wr ∧ Hid (r = n + runN s p k (i + n)))
  case atStart => exact ⟨0, rfl, by omega, by omega, rfl, by rw [HR.out]; unfold run; rw [Nat.zero_add]; rfl⟩
  case round =>
    obtain ⟨n, rfl, hn, hk, rfl, hq⟩ := hrel
    by_cases hlt : i + n < s.size
    · obtain ⟨k, rfl⟩ : ∃ k, gk = k + 1 := ⟨gk - 1, by omega⟩
      have hpk := pk_in s (i + n) hlt
      have hlt' : ((i : Int) + (n : Int)) < (s.size : Int) := by omega
      cases hb : p (pk s (i + n)) with
      | true =>
        have HQ := Lib.hid (hq.out.trans (by rw [runN_step hlt hb]))
        have C := fun W => hp (pk s (i + n)) W
        rw [hb, hpk] at C
        have CC := Lib.hid C
        clear hq hb hpk C
        go_wp2_with fail
        refine (CC.out _).mono ?_
        rintro e w' ⟨rfl, rfl⟩
        go_wp2_with fail
        go_roundg k
        case measure => omega
        case rel => exact ⟨n + 1, by go_num, by omega, by omega, rfl, by rw [HQ.out, show i + (n + 1) = i + n + 1 from by omega]; show _ = _; omega⟩
      | false =>
        have HQ := Lib.hid (hq.out.trans (by rw [runN_stop (fun _ => hb)]))
        have C := fun W => hp (pk s (i + n)) W
        rw [hb, hpk] at C
        have CC := Lib.hid C
        clear hq hb hpk C
        go_wp2_with fail
        refine (CC.out _).mono ?_
        rintro e w' ⟨rfl, rfl⟩
        go_wp2_with fail
        go_ret
        exact ⟨ret_int (by rw [HQ.out]; rfl), 0, rfl⟩
    · have HQ := Lib.hid (hq.out.trans (by rw [runN_stop (fun h => absurd h hlt)]))
      clear hq
      have hge : (s.size : Int) ≤ (i : Int) + (n : Int) := by omega
      go_wp2_with fail
      go_ret
      exact ⟨ret_int (by rw [HQ.out]; rfl), 0, rfl⟩

theorem bad_c (R : Nat) (s : ByteArray) (i : Nat) (line : Int) (v : Value) (a : Addr) (w : World) (h : LxAt w R s i line v) :
    Calls Tryz.prog 69 #[.pointer (some ⟨R, 0, none⟩), .iface 204 (.pointer (some a))] w fun e w' => e = .returned (.iface 58 (.pointer (some ⟨w.heap.size, 0, none⟩))) ∧ w.alloc (.cells #[.int .i64 line, .iface 204 (.pointer (some a))] 61) = w' := by
  have hc := h.c2
  clear h
  go_enter Tryz.func69, Tryz.ntmps69
  go_wp2_with fail
  go_ret
  exact ⟨rfl, rfl⟩

theorem tok_info : (Tryz.prog.info? 75).map (fun i => (i.zero, i.size, i.bytes)) = some (some (.agg #[.int .i64 0, .int .i64 0, .string ⟨#[]⟩, .int .i64 0, .int .i64 0, .string ⟨#[]⟩, .slice none 0 0]), 7, 88) := by kernel_rfl
theorem news7 (w : World) (o : Obj) (a b c d e f g : Value) (T : Nat) : ∀ j u, [a, b, c, d, e, f, g][j]? = some u → ((w.alloc o).alloc (.cells #[a, b, c, d, e, f, g] T)).cell? ((⟨w.heap.size + 1, 0, none⟩ : Addr).add j) = some u :=
  World.news_of_block (cs := #[a, b, c, d, e, f, g]) (by have := heap_alloc_new (w.alloc o) (.cells #[a, b, c, d, e, f, g] T); rw [World.size_alloc] at this; exact this)
theorem one7 (a b c d : Int) (s t : ByteArray) (sa : Option Addr) (n sc : Nat) : ∀ u ∈ [Value.int .i64 a, .int .i64 b, .string s, .int .i64 c, .int .i64 d, .string t, .slice sa n sc], u.oneCell' = true := by
  intro u hu; simp at hu; rcases hu with rfl | rfl | rfl | rfl | rfl | rfl | rfl <;> rfl

theorem news7d (w : World) (o : Obj) (a b c d e f g : Value) (T : Nat) : ∀ j u, [a, b, c, d, e, f, g][j]? = some u → ((w.alloc o).alloc (.cells #[a, b, c, d, e, f, g] T)).drew.cell? ((⟨w.heap.size + 1, 0, none⟩ : Addr).add j) = some u := fun j u h => news7 w o a b c d e f g T j u h
theorem own2d {w : World} {base e size n : Nat} {v : Value} {xs : List Value} (h : w.ownsRow base e size v n xs) (o o' : Obj) : ((w.alloc o).alloc o').drew.ownsRow base e size v n xs := (h.alloc o).alloc o'
theorem LxAt.grown2 {w w1 : World} {R : Nat} {s : ByteArray} {i : Nat} {line : Int} {v : Value} {e size n : Nat} {xs : List Value} {o o' : Obj} (ha : LxAt w R s i line v) (hown : w.ownsRow (R + 1) e size v n xs)
    (hg : ((w.alloc o).alloc o').drew.grownBy w1 v.ownBlock) : LxAt w1 R s i line v :=
  LxAt.only (w := ((w.alloc o).alloc o').drew) ((ha.alloc o).alloc o') hg (fun e => by have := (hown.lt R e.symm).1; omega)
/-- What the append leaves, the place and the row laid down in the reader. -/
theorem put_end {w wa w1 : World} {R : Nat} {s : ByteArray} {i n : Nat} {line : Int} {v : Value} {l : List Tok} {L : List TokM} {t : Tok} {sa : Option Addr} {sc g cap : Nat}
    (ha : LxAt w R s i line v) (hl : L.map (·.1) = l) (hLi : L.length ≤ i) (h1 : 1 ≤ n) (hn : i + n ≤ s.size) (hown0 : w.ownsRow (R + 1) 75 7 v L.length (tkCells L)) (hwa : Below w.heap.size w wa)
    (hown : w1.ownsRow (R + 1) 75 7 (.slice (some ⟨g, 0, none⟩) (L.length + 1) cap) (L.length + 1) (tkCells L ++ [.int .i64 t.kind, .int .i64 line, .string t.s, .int .i64 t.k, .int .i64 t.n, .string t.t, .slice sa 0 sc]))
    (hgrow : wa.grownBy w1 v.ownBlock) :
    Below R w ((w1.setCell ⟨R, 3, none⟩ (.slice (some ⟨g, 0, none⟩) (L.length + 1) cap)).setCell ⟨R, 1, none⟩ (.int .i64 ((i + n : Nat) : Int))) ∧
    LxSt ((w1.setCell ⟨R, 3, none⟩ (.slice (some ⟨g, 0, none⟩) (L.length + 1) cap)).setCell ⟨R, 1, none⟩ (.int .i64 ((i + n : Nat) : Int))) R s (i + n) line (l ++ [{ t with line := line }]) := by
  have hb : ∀ k, v.ownBlock = some k → R + 1 ≤ k := fun k hk => (hown0.lt k hk).1
  have hR : some R ≠ v.ownBlock := fun e => by have := hb R e.symm; omega
  have hlt := ha.lt
  have h1' : LxAt w1 R s i line v := (ha.below hwa hlt).only hgrow hR
  refine ⟨?_, .slice (some ⟨g, 0, none⟩) (L.length + 1) cap, L ++ [({ t with line := line }, sa, sc)], (h1'.set3 _).set1 _, ?_, ?_, ?_, hn⟩
  · refine Below.setCell (Below.setCell (Below.grown (below_le' hwa (Nat.le_of_lt hlt)) hgrow ?_ (fun k hk => by have := hb k hk; omega)) (Nat.le_refl _) _) (Nat.le_refl _) _
    have := hwa.size; omega
  · rw [tkCells_app]
    have := ownsRow_setCell_below (ownsRow_setCell_below hown (a := ⟨R, 3, none⟩) (by show R < R + 1; omega) (.slice (some ⟨g, 0, none⟩) (L.length + 1) cap)) (a := ⟨R, 1, none⟩) (by show R < R + 1; omega) (.int .i64 ((i + n : Nat) : Int))
    rw [List.length_append]; exact this
  · rw [List.map_append, hl]; rfl
  · rw [List.length_append]; show L.length + 1 ≤ i + n; omega

set_option maxRecDepth 100000 in
set_option maxHeartbeats 1000000 in
theorem put_c (R : Nat) (s : ByteArray) (i : Nat) (line : Int) (l : List Tok) (w : World) (h : LxSt w R s i line l) (n : Nat) (h1 : 1 ≤ n) (hn : i + n ≤ s.size) (hs : s.size ≤ 1000000000) (t : Tok) (line0 : Int) (sa : Option Addr) (sc : Nat) :
    Calls Tryz.prog 72 #[.pointer (some ⟨R, 0, none⟩), .int .i64 n, .agg #[.int .i64 t.kind, .int .i64 line0, .string t.s, .int .i64 t.k, .int .i64 t.n, .string t.t, .slice sa 0 sc]] w fun e w' =>
      e = .returned (.tuple #[]) ∧ Below R w w' ∧ LxSt w' R s (i + n) line (l ++ [{ t with line := line }]) := by
  obtain ⟨v, L, ha, hown, hl, hLi, his⟩ := h
  obtain ⟨VA, VC, rfl⟩ := own_form hown
  have hc1 := ha.c1
  have hc2 := ha.c2
  have hc3 := ha.c3
  have hf1 := ha.fr 1
  have hf3 := ha.fr 3
  have hlt := ha.lt
  obtain ⟨i0, hi0, hz0, hz1, hz2⟩ := info_parts tok_info
  have HA := Lib.hid ha
  have HL := Lib.hid hl
  have HO := Lib.hid hown
  clear ha hl hown
  go_enter Tryz.func72, Tryz.ntmps72
  go_wp2_with fail
  go_region_law ((refine step_append_lies _ (by rfl) (.tmp 15) (.tmp 17) 48 (by rfl) (R + 1) 75 i0 _ 7 88 Tryz.underlying48 hi0 hz0 hz1 hz2 rfl (by decide) (.slice VA L.length VC) L.length (tkCells L) (by rfl) (own2d HO.out _ _) ⟨w.heap.size + 1, 0, none⟩ 1 1 [.int .i64 t.kind, .int .i64 line, .string t.s, .int .i64 t.k, .int .i64 t.n, .string t.t, .slice sa 0 sc] (by rfl) rfl (news7d _ _ _ _ _ _ _ _ _ _) (one7 _ _ _ _ _ _ _ _ _) (by decide) (by unfold maxLen; omega) (by omega) (by simp; omega) _ rfl ?_; intro g cap w1 hown' hgrow hat hlt1; have q3 := (HA.out.grown2 HO.out hgrow).c3; have q1 := (HA.out.grown2 HO.out hgrow).c1; have p3 := (HA.out.grown2 HO.out hgrow).fr 3; have p1 := (HA.out.grown2 HO.out hgrow).fr 1))
  all_goals
    go_wp2_with fail
    go_end0
    have PE := put_end HA.out HL.out hLi h1 hn HO.out (((Below.refl _ _).alloc (Nat.le_refl _) _).alloc (by simp) _).drew hown' hgrow
    rw [show ((i + n : Nat) : Int) = (i : Int) + (n : Int) from by omega] at PE
    exact ⟨rfl, PE.1, PE.2⟩
end Go.Proofs.YtjibjgokloondaaGreatDoor
namespace Go.Proofs.YtjibjgokloondaaGreatDoor
open Go.RowKit Go.Lib Go.Sort
set_option linter.unusedVariables false

theorem sort_const {a b : List (List UInt8)} (hp : b.Perm a) (hs : b.Pairwise (fun x y => decide (x ≤ y) = true)) : a.mergeSort (fun x y => decide (x ≤ y)) = b := by
  have h1 : (a.mergeSort (fun x y => decide (x ≤ y))).Perm b := (List.mergeSort_perm a _).trans hp.symm
  refine List.Perm.eq_of_pairwise (le := fun x y : List UInt8 => decide (x ≤ y) = true) ?_ ?_ hs h1
  · intro x y _ _ h1 h2
    exact List.le_antisymm (of_decide_eq_true h1) (of_decide_eq_true h2)
  · refine List.pairwise_mergeSort ?_ ?_ a
    · intro x y z h1 h2; exact decide_eq_true (List.le_trans (of_decide_eq_true h1) (of_decide_eq_true h2))
    · intro x y
      rw [Bool.or_eq_true]
      rcases List.le_total x y with h | h
      · exact .inl (decide_eq_true h)
      · exact .inr (decide_eq_true h)

/-- Texts that lie in a row. -/
def StrsAt (w : World) (g : Nat) (l : List ByteArray) : Prop := ∀ j, j < l.length → w.cell? ⟨g, 0 + j, none⟩ = some (.string (l.getD j ByteArray.empty))
theorem StrsAt.below {w w' : World} {g : Nat} {l : List ByteArray} {B : Nat} (h : StrsAt w g l) (hb : Below B w w') (hg : g < B) : StrsAt w' g l := fun j hj => (hb.cell (p := ⟨g, 0 + j, none⟩) hg).trans (h j hj)

/-- What sorting leaves. -/
theorem sorted_at {w w' : World} {g n : Nat} {os : Array Obj} {ss : List (List UInt8)} {l : List ByteArray} (hH : Holds encStr w g 0 ss.toArray) (hg : g < w.heap.size)
    (hl : ss.mergeSort (fun x y => decide (x ≤ y)) = l.map (·.data.toList)) (he : w' = grow (putRow encStr (Sort.ahead w n) g 0 (ss.mergeSort fun x y => decide (x ≤ y)).toArray) os) :
    StrsAt w' g l ∧ Below g w w' := by
  have hsz : (ss.mergeSort fun x y => decide (x ≤ y)).toArray.size = ss.toArray.size := by simp
  have hh := holds_putRow encStr (Sort.ahead w n) g 0 ss.toArray (ss.mergeSort fun x y => decide (x ≤ y)).toArray (holds_ahead _ _ _ _ _ _ hH) hsz
  have hlt : g < (putRow encStr (Sort.ahead w n) g 0 (ss.mergeSort fun x y => decide (x ≤ y)).toArray).heap.size := by
    have : (putRow encStr (Sort.ahead w n) g 0 (ss.mergeSort fun x y => decide (x ≤ y)).toArray).heap.size = w.heap.size := by unfold putRow mapBlock Sort.ahead; simp
    omega
  have hg' := holds_grow encStr _ os g 0 _ hlt hh
  rw [← he] at hg'
  refine ⟨fun j hj => ?_, ?_⟩
  · have := (hg' j (by rw [hl]; simpa using hj)).1
    rw [this, hl]
    congr 1
    unfold encStr
    congr 1
    rw [List.getElem!_toArray]
    rw [getElem!_pos _ _ (by simpa using hj), List.getElem_map, List.getD_eq_getElem?_getD, List.getElem?_eq_getElem hj]
    rfl
  · rw [he]
    refine ⟨rfl, rfl, rfl, ?_, fun k hk => ?_⟩
    · unfold grow putRow mapBlock Sort.ahead; simp
    · unfold grow putRow mapBlock Sort.ahead
      simp only
      rw [Array.getElem?_append_left (by simp; omega), Array.getElem?_modify, if_neg (by omega)]

def keysT : List UInt8 := [105, 102, 32, 101, 108, 115, 101, 105, 102, 32, 101, 108, 115, 101, 32, 101, 110, 100, 105, 102, 32, 102, 111, 114, 32, 105, 110, 32, 101, 110, 100, 102, 111, 114, 32, 119, 104, 105, 108, 101, 32, 101, 110, 100, 119, 104, 105, 108, 101, 32, 98, 114, 101, 97, 107, 32, 99, 111, 110, 116, 105, 110, 117, 101, 32, 114, 101, 116, 117, 114, 110, 32, 102, 111, 114, 107, 32, 101, 110, 100, 102, 111, 114, 107, 32, 116, 114, 121, 32, 101, 120, 99, 101, 112, 116, 32, 102, 105, 110, 97, 108, 108, 121, 32, 101, 110, 100, 116, 114, 121, 32, 97, 110, 121]
def keysF : List (List UInt8) := [[105, 102], [101, 108, 115, 101, 105, 102], [101, 108, 115, 101], [101, 110, 100, 105, 102], [102, 111, 114], [105, 110], [101, 110, 100, 102, 111, 114], [119, 104, 105, 108, 101], [101, 110, 100, 119, 104, 105, 108, 101], [98, 114, 101, 97, 107], [99, 111, 110, 116, 105, 110, 117, 101], [114, 101, 116, 117, 114, 110], [102, 111, 114, 107], [101, 110, 100, 102, 111, 114, 107], [116, 114, 121], [101, 120, 99, 101, 112, 116], [102, 105, 110, 97, 108, 108, 121], [101, 110, 100, 116, 114, 121], [97, 110, 121]]
def signsT : List UInt8 := [40, 32, 41, 32, 123, 32, 125, 32, 91, 32, 93, 32, 44, 32, 59, 32, 46, 32, 58, 32, 33, 32, 63, 32, 124, 32, 61, 32, 43, 32, 45, 32, 42, 32, 47, 32, 37, 32, 60, 32, 62, 32, 64, 32, 39, 32, 36, 32, 61, 61, 32, 33, 61, 32, 60, 61, 32, 62, 61, 32, 38, 38, 32, 124, 124, 32, 61, 62, 32, 46, 46]
def signsF : List (List UInt8) := [[40], [41], [123], [125], [91], [93], [44], [59], [46], [58], [33], [63], [124], [61], [43], [45], [42], [47], [37], [60], [62], [64], [39], [36], [61, 61], [33, 61], [60, 61], [62, 61], [38, 38], [124, 124], [61, 62], [46, 46]]
set_option maxRecDepth 100000 in
theorem keys_fields : Lib.fields keysT = keysF := by decide +kernel
set_option maxRecDepth 100000 in
theorem signs_fields : Lib.fields signsT = signsF := by decide +kernel
theorem keys_sorted : keysF.mergeSort (fun x y => decide (x ≤ y)) = keysL.map (·.data.toList) := sort_const (List.isPerm_iff.1 (by decide +kernel)) (by decide +kernel)
theorem signs_sorted : (signsF ++ [[96]]).mergeSort (fun x y => decide (x ≤ y)) = signsL.map (·.data.toList) := sort_const (List.isPerm_iff.1 (by decide +kernel)) (by decide +kernel)
theorem ascii_all {l : List UInt8} (h : l.all (fun b => decide (b.toNat < 128)) = true) : ∀ (j : Nat) b, l[j]? = some b → b.toNat < 128 := fun j b hb =>
  of_decide_eq_true (List.all_eq_true.1 h b (List.mem_of_getElem? hb))
abbrev SpaceAt (w : World) : Prop := Lib.TabIs Tryz.prog w "strings.asciiSpace" .u8 Lib.asciiSpaceTab

theorem keysFields_c (w : World) (ht : SpaceAt w) : Calls Tryz.prog 88 #[.string ⟨keysT.toArray⟩] w fun e w' =>
    e = .returned (.slice (some ⟨w.heap.size, 0, none⟩) 19 19) ∧ w.alloc (.cells (keysF.map fun l => Value.string ⟨l.toArray⟩).toArray 9) = w' := by
  refine (Tryz.strings_Fields_laid ⟨keysT.toArray⟩ w (by decide) (ascii_all (l := keysT) (by decide +kernel)) ht).mono ?_
  rintro e w' ⟨rfl, rfl⟩
  rw [show (⟨keysT.toArray⟩ : ByteArray).data.toList = keysT from rfl, keys_fields]
  exact ⟨rfl, rfl⟩
theorem signsFields_c (w : World) (ht : SpaceAt w) : Calls Tryz.prog 88 #[.string ⟨signsT.toArray⟩] w fun e w' =>
    e = .returned (.slice (some ⟨w.heap.size, 0, none⟩) 32 32) ∧ w.alloc (.cells (signsF.map fun l => Value.string ⟨l.toArray⟩).toArray 9) = w' := by
  refine (Tryz.strings_Fields_laid ⟨signsT.toArray⟩ w (by decide) (ascii_all (l := signsT) (by decide +kernel)) ht).mono ?_
  rintro e w' ⟨rfl, rfl⟩
  rw [show (⟨signsT.toArray⟩ : ByteArray).data.toList = signsT from rfl, signs_fields]
  exact ⟨rfl, rfl⟩

/-- A new row of texts, as sorting asks for it. -/
theorem holds_new (w : World) (ss : List (List UInt8)) : Holds encStr (w.alloc (.cells (ss.map fun l => Value.string ⟨l.toArray⟩).toArray 9)) w.heap.size 0 ss.toArray := by
  intro j hj
  have hb := heap_alloc_new w (.cells (ss.map fun l => Value.string ⟨l.toArray⟩).toArray 9)
  refine ⟨?_, by unfold World.frozen?; rw [hb]; simp⟩
  rw [Nat.zero_add, cell_of_row _ _ j _ _ _ hb]
  have hj' : j < ss.length := by simpa using hj
  simp [hj', encStr]

set_option maxRecDepth 100000 in
theorem keys_c (w : World) (ht : SpaceAt w) : Calls Tryz.prog 71 #[] w fun e w' =>
    ∃ g, e = .returned (.slice (some ⟨g, 0, none⟩) 19 19) ∧ g < w'.heap.size ∧ StrsAt w' g keysL ∧ Below w.heap.size w w' := by
  have FK := Lib.hid (keysFields_c w ht)
  obtain ⟨w1, hw1⟩ : ∃ w1, w1 = w.alloc (.cells (keysF.map fun l => Value.string ⟨l.toArray⟩).toArray 9) := ⟨_, rfl⟩
  have hH : Holds encStr w1 w.heap.size 0 keysF.toArray := by rw [hw1]; exact holds_new w keysF
  have hz : w.heap.size < w1.heap.size := by rw [hw1]; simp
  have hb : Below w.heap.size w w1 := by rw [hw1]; exact (Below.refl _ _).alloc (Nat.le_refl _) _
  have SC := Lib.hid (Tryz.slices_Sort_string w.heap.size 0 19 keysF w1 hH hz (by decide))
  rw [show keysF.length = 19 from rfl] at SC
  rw [← hw1] at FK
  have HH := Lib.hid hH
  have HB := Lib.hid hb
  clear hH hb hw1
  go_enter Tryz.func71, Tryz.ntmps71
  go_wp2_with fail
  refine FK.out.mono ?_
  rintro e w2 ⟨rfl, rfl⟩
  go_wp2_with fail
  refine SC.out.mono ?_
  rintro e w2 ⟨rfl, n, os, he⟩
  have SA := Lib.hid (sorted_at HH.out hz keys_sorted he)
  clear he
  go_wp2_with fail
  go_ret
  exact ⟨_, rfl, Nat.lt_of_lt_of_le hz SA.out.2.size, SA.out.1, HB.out.trans SA.out.2⟩

theorem lstr_info : (Tryz.prog.info? 9).map (fun i => (i.zero, i.size, i.bytes)) = some (some (.string ⟨#[]⟩), 1, 16) := by kernel_rfl
/-- A row of texts that the call owns, as sorting asks for it. -/
theorem holds_own {w : World} {base g n cap : Nat} {ss : List (List UInt8)} (h : w.ownsRow base 9 1 (.slice (some ⟨g, 0, none⟩) n cap) n (ss.map fun l => Value.string ⟨l.toArray⟩)) : Holds encStr w g 0 ss.toArray := by
  intro j hj
  have hj' : j < ss.length := by simpa using hj
  have hc := h.cells (g := g) rfl j (.string ⟨(ss[j]).toArray⟩) (by simp [hj'])
  have hadd : (⟨g, 0, none⟩ : Addr).add j = ⟨g, j, none⟩ := by unfold Addr.add; split <;> simp_all
  rw [hadd] at hc
  refine ⟨by rw [Nat.zero_add, hc]; simp [hj', encStr], ?_⟩
  rcases h.2 with ⟨e, _⟩ | ⟨g', cap', cur, e, _, hh, _⟩
  · cases e
  · injection e with e _ _; injection e with e; injection e with e _ _; subst e
    unfold World.frozen?; rw [hh]; simp
theorem own_new (w : World) (ss : List (List UInt8)) (hm : ss.length ≤ maxLen) : (w.alloc (.cells (ss.map fun l => Value.string ⟨l.toArray⟩).toArray 9)).ownsRow w.heap.size 9 1 (.slice (some ⟨w.heap.size, 0, none⟩) ss.length ss.length) ss.length (ss.map fun l => Value.string ⟨l.toArray⟩) :=
  ⟨by simp, .inr ⟨w.heap.size, ss.length, _, rfl, Nat.le_refl _, heap_alloc_new w _, Nat.le_refl _, hm, by simp, by simp only [Nat.mul_one]; exact List.take_of_length_le (by simp)⟩⟩

set_option maxRecDepth 100000 in
set_option maxHeartbeats 1000000 in
theorem signs_c (w : World) (ht : SpaceAt w) : Calls Tryz.prog 77 #[] w fun e w' =>
    ∃ g cap, e = .returned (.slice (some ⟨g, 0, none⟩) 33 cap) ∧ w.heap.size ≤ g ∧ g < w'.heap.size ∧ StrsAt w' g signsL ∧ Below w.heap.size w w' := by
  obtain ⟨i0, hi0, hz0, hz1, hz2⟩ := info_parts lstr_info
  have FK := Lib.hid (signsFields_c w ht)
  obtain ⟨w1, hw1⟩ : ∃ w1, w1 = w.alloc (.cells (signsF.map fun l => Value.string ⟨l.toArray⟩).toArray 9) := ⟨_, rfl⟩
  have hO : w1.ownsRow w.heap.size 9 1 (.slice (some ⟨w.heap.size, 0, none⟩) 32 32) 32 (signsF.map fun l => Value.string ⟨l.toArray⟩) := by rw [hw1]; exact own_new w signsF (by decide)
  have hz : w.heap.size < w1.heap.size := by rw [hw1]; simp
  have hb : Below w.heap.size w w1 := by rw [hw1]; exact (Below.refl _ _).alloc (Nat.le_refl _) _
  rw [← hw1] at FK
  have HO := Lib.hid hO
  have HB := Lib.hid hb
  clear hO hb hw1
  go_enter Tryz.func77, Tryz.ntmps77
  go_wp2_with fail
  refine FK.out.mono ?_
  rintro e w2 ⟨rfl, rfl⟩
  go_wp2_with (at_builtin; refine wpList_append_own_at _ rfl (.tmp 3) (.tmp 4) 23 rfl w.heap.size 9 i0 _ 1 16 Tryz.underlying23 hi0 hz0 hz1 hz2 rfl (by decide) (.slice (some ⟨w.heap.size, 0, none⟩) 32 32) 32 _ rfl (HO.out.alloc _) ⟨w1.heap.size, 0, none⟩ 1 1 [.string ⟨#[96]⟩] rfl rfl ?c1 ?c2 ?c3 ?c4 ?c5 ?_
               case c1 => exact World.news_of_block (cs := #[.string ⟨#[96]⟩]) (heap_alloc_new w1 _)
               case c2 => intro u hu; simp at hu; subst hu; rfl
               case c3 => decide
               case c4 => decide
               case c5 => simp; omega
               intro v' w3 hown' hgrow _ hob
               have HO3 := Lib.hid hown'
               have HG3 := Lib.hid hgrow
               clear hown' hgrow hob)
  obtain ⟨g, cap, hv, hbg, hlt⟩ := HO3.out.form (by decide)
  subst hv
  have hHs : Holds encStr w3 g 0 (signsF ++ [[96]]).toArray := holds_own (ss := signsF ++ [[96]]) (by rw [List.map_append]; exact HO3.out)
  have SC := Lib.hid (Tryz.slices_Sort_string g 0 cap (signsF ++ [[96]]) w3 hHs hlt (by decide))
  have HH := Lib.hid hHs
  rw [show (signsF ++ ([[96]] : List (List UInt8))).length = 33 from rfl] at SC
  clear hHs
  go_wp2_with fail
  refine SC.out.mono ?_
  rintro e w4 ⟨rfl, n, os, he⟩
  have SA := Lib.hid (sorted_at HH.out hlt signs_sorted he)
  have hz4 : w3.heap.size ≤ w4.heap.size := SA.out.2.size
  clear he
  go_wp2_with fail
  go_ret
  exact ⟨g, cap, rfl, hbg, by omega, SA.out.1, (Below.grown (HB.out.alloc (by omega) _) HG3.out (by simp; omega) (fun k hk => by injection hk with hk; subst hk; exact Nat.le_refl _)).trans (below_le' SA.out.2 hbg)⟩
end Go.Proofs.YtjibjgokloondaaGreatDoor
