/- Contracts of the functions that the statement reaches, and the plain mathematics beneath: several texts joined. -/
import Derived.Test.YtggngahmafbihaaGreatDoorPwyC
import Derived.Test.YtggngahmafbihaaGreatDoorShelf
import Derived.Lib.ItoaMem
import Derived.Lib.ItoaLen
import Derived.Lib.ParseIntBCases
import Derived.Lib.ParseIntBTie
import Derived.Lib.SmallJoins
import Derived.Lib.AppendIntMem
import Derived.Lib.ReplaceLaws
import Derived.Lib.Join
import Derived.Test.YtggngahmafbihaaGreatDoorPwyA
import Derived.Test.YtggngahmafbihaaGreatDoorPwyB
import Derived.Deep.AppendLies
import Derived.Maps.AppendAt
namespace Go.Proofs.YtggngahmafbihaaGreatDoor
open Go.RowKit Go.Lib
set_option linter.unusedVariables false

/-- The code of a name. -/
def codeOf (s : ByteArray) : Int := idxOfS nmL s
set_option maxHeartbeats 1000000 in
theorem code_l (s : ByteArray) (w : World) :
    Calls Tryz.prog 122 #[.string s] w fun e w' => e = .returned (.tuple #[.int .i64 (if codeOf s < 0 then 0 else codeOf s), .bool (decide (0 ≤ codeOf s))]) ∧ Below w.heap.size w w' := by
  have NC := Lib.hid (names_c w)
  have hb : Below w.heap.size w (w.alloc (.cells (nmL.map Value.string).toArray 9)) := (Below.refl _ _).alloc (Nat.le_refl _) _
  have IC := Lib.hid (Tryz.slices_Index_string w.heap.size 0 15 15 nmL s (w.alloc (.cells (nmL.map Value.string).toArray 9)) (by rw [nmL_len]; exact Nat.le_refl _) (by decide)
    (fun j hj => by rw [Nat.zero_add]; exact names_cell w j (by rw [nmL_len] at hj; exact hj) 0))
  rw [show nmL.take 15 = nmL from rfl, show idxOfS nmL s = codeOf s from rfl] at IC
  have HB := Lib.hid hb
  clear hb
  by_cases hc : codeOf s < 0
  · rw [if_pos hc, show decide (0 ≤ codeOf s) = false by simp; omega]
    go_enter Tryz.func122, Tryz.ntmps122
    go_wp2_with fail
    refine NC.out.mono ?_
    rintro e w2 ⟨rfl, rfl⟩
    go_wp2_with fail
    refine IC.out.mono ?_
    rintro e w2 ⟨rfl, rfl⟩
    go_wp2_with fail
    go_returns
    exact ⟨rfl, HB.out⟩
  · rw [if_neg hc, show decide (0 ≤ codeOf s) = true by simp; omega]
    have hd : decide (codeOf s < 0) = false := by simp; omega
    go_enter Tryz.func122, Tryz.ntmps122
    go_wp2_with fail
    refine NC.out.mono ?_
    rintro e w2 ⟨rfl, rfl⟩
    go_wp2_with fail
    refine IC.out.mono ?_
    rintro e w2 ⟨rfl, rfl⟩
    go_wp2_with fail
    go_returns
    exact ⟨rfl, HB.out⟩

end Go.Proofs.YtggngahmafbihaaGreatDoor
namespace Go.Proofs.YtggngahmafbihaaGreatDoor
open Go.Lib
set_option linter.unusedVariables false

def isDg (c : UInt8) : Bool := decide (48 ≤ c.toNat) && decide (c.toNat ≤ 57)
theorem isDg_iff {c : UInt8} : isDg c = true ↔ 48 ≤ c.toNat ∧ c.toNat ≤ 57 := by simp [isDg]
/-- What digits spell. -/
def dg1 (c : UInt8) : Nat := c.toNat - 48
theorem dg1_eq (c : UInt8) : dg1 c = c.toNat - 48 := by rw [dg1]
attribute [irreducible] dg1
def dval (acc : Nat) (l : List UInt8) : Nat := l.foldl (fun a c => a * 10 + dg1 c) acc
theorem dval_nil (acc : Nat) : dval acc [] = acc := by unfold dval; rw [List.foldl_nil]
theorem dval_cons (acc : Nat) (c : UInt8) (r : List UInt8) : dval acc (c :: r) = dval (acc * 10 + dg1 c) r := by unfold dval; rw [List.foldl_cons]
theorem dval_ge (l : List UInt8) : ∀ acc : Nat, acc ≤ dval acc l := by
  induction l with
  | nil => intro acc; rw [dval_nil]; exact Nat.le_refl _
  | cons c r ih => intro acc; rw [dval_cons]; have := ih (acc * 10 + dg1 c); omega
theorem uintM_digits : ∀ (l : List UInt8) (acc : Nat), (∀ c ∈ l, isDg c = true) → dval acc l ≤ 18446744073709551615 → parseUintM 18446744073709551615 acc l = .ok (dval acc l)
  | [], acc, _, _ => rfl
  | c :: r, acc, hd, h => by
    have hc := isDg_iff.1 (hd c (by simp))
    rw [dval_cons, dg1_eq] at h
    have hg := dval_ge r (acc * 10 + (c.toNat - 48))
    rw [parseUintM, if_pos hc, if_neg (by omega), if_neg (by omega), uintM_digits r _ (fun x hx => hd x (by simp [hx])) h, dval_cons, dg1_eq]

end Go.Proofs.YtggngahmafbihaaGreatDoor
namespace Go.Proofs.YtggngahmafbihaaGreatDoor
open Go.RowKit Go.Lib
set_option linter.unusedVariables false

/-- What strconv's package-level variables hold. -/
structure StrcAt (w : World) : Prop where
  syn : ∃ te pe, w.cell? ⟨21, 0, none⟩ = some (.iface te pe)
  rng : ∃ te pe, w.cell? ⟨22, 0, none⟩ = some (.iface te pe)
  tab : TabIs Tryz.prog w "internal/strconv.uint64pow10" .u64 pow10Tab
  room : 24 < w.heap.size
theorem StrcAt.below {w w' : World} {B : Nat} (h : StrcAt w) (hb : Below B w w') (hB : w.heap.size ≤ B) : StrcAt w' := by
  have hk : ∀ p : Addr, p.block < w.heap.size → w'.cell? p = w.cell? p := fun p hp => World.cell?_of_block (w := w) (hb.block p.block (by omega))
  have hr := h.room
  obtain ⟨t1, p1, h1⟩ := h.syn
  obtain ⟨t2, p2, h2⟩ := h.rng
  exact ⟨⟨t1, p1, (hk ⟨21, 0, none⟩ (Nat.lt_trans (by decide) hr)).trans h1⟩, ⟨t2, p2, (hk ⟨22, 0, none⟩ (Nat.lt_trans (by decide) hr)).trans h2⟩, Joins.tab_stays (g := 20) rfl h.tab hb hB, by have := hb.size; omega⟩

end Go.Proofs.YtggngahmafbihaaGreatDoor
namespace Go.Proofs.YtggngahmafbihaaGreatDoor
open Go.RowKit Go.Lib
set_option linter.unusedVariables false

end Go.Proofs.YtggngahmafbihaaGreatDoor
namespace Go.Proofs.YtggngahmafbihaaGreatDoor
open Go.RowKit Go.Lib
set_option linter.unusedVariables false

theorem digB_isDg (c : UInt8) : digB c = isDg c := by
  cases h : isDg c with
  | true => have := isDg_iff.1 h; unfold digB; exact decide_eq_true this
  | false => unfold digB; refine decide_eq_false fun e => ?_; rw [isDg_iff.2 e] at h; cases h
theorem pk_drop {s : ByteArray} {i : Nat} {c : UInt8} {r : List UInt8} (h : s.data.toList.drop i = c :: r) : pk s i = c ∧ s.data.toList.drop (i + 1) = r := by
  constructor
  · unfold pk
    rw [List.getD_eq_getElem?_getD, ← List.head?_drop, h]; rfl
  · rw [← List.drop_drop, h]; rfl
end Go.Proofs.YtggngahmafbihaaGreatDoor
namespace Go.Proofs.YtggngahmafbihaaGreatDoor
open Go.RowKit Go.Lib
set_option linter.unusedVariables false

/-- A text with its signs. -/
def escL : List UInt8 → List UInt8
  | [] => []
  | x :: r => if x = 34 ∨ x = 92 then 92 :: x :: escL r else x :: escL r
def quoL (l : List UInt8) : List UInt8 := 34 :: (escL l ++ [34])

/-- All numbers are of 64 bits. -/
def VL.i64 : VL → Prop
  | .nil => True
  | .cons _ n _ sub rest => -9223372036854775808 ≤ n ∧ n ≤ 9223372036854775807 ∧ sub.i64 ∧ rest.i64
end Go.Proofs.YtggngahmafbihaaGreatDoor
namespace Go.Proofs.YtggngahmafbihaaGreatDoor
open Go.RowKit Go.Lib
set_option linter.unusedVariables false

end Go.Proofs.YtggngahmafbihaaGreatDoor
namespace Go.Proofs.YtggngahmafbihaaGreatDoor
open Go.RowKit Go.Lib
set_option linter.unusedVariables false

theorem bytes_empty {t : ByteArray} (h : t.data.toList = []) : t = ByteArray.empty := by
  rcases t with ⟨⟨l⟩⟩
  cases l with
  | nil => rfl
  | cons a r => cases h
end Go.Proofs.YtggngahmafbihaaGreatDoor
namespace Go.Proofs.YtggngahmafbihaaGreatDoor
open Go.RowKit Go.Lib
set_option linter.unusedVariables false

theorem drop_pk {s : ByteArray} {i : Nat} (h : i < s.size) : s.data.toList.drop i = pk s i :: s.data.toList.drop (i + 1) := by
  have hl : i < s.data.toList.length := by rw [Array.length_toList]; exact h
  rw [List.drop_eq_getElem_cons hl]
  unfold pk
  rw [List.getD_eq_getElem?_getD, List.getElem?_eq_getElem hl]; rfl

theorem strLoop_inv (s : ByteArray) : ∀ (f i : Nat) (acc : List UInt8) (j : Nat) (l' : List UInt8), strLoop s f i acc = (j, true, l') → ∃ l, l' = acc ++ l ∧ prB l = true ∧ s.data.toList.drop i = escL l ++ s.data.toList.drop j
  | 0, i, acc, j, l', h => by
    unfold strLoop at h
    simp only [Prod.mk.injEq, true_and] at h
    obtain ⟨rfl, rfl⟩ := h
    exact ⟨[], by simp, rfl, rfl⟩
  | f + 1, i, acc, j, l', h => by
    by_cases h34 : pk s i = 34
    · rw [strLoop_end _ _ _ _ h34] at h
      simp only [Prod.mk.injEq, true_and] at h
      obtain ⟨rfl, rfl⟩ := h
      exact ⟨[], by simp, rfl, rfl⟩
    by_cases h92 : pk s i = 92
    · by_cases hy : pk s (i + 1) = 34 ∨ pk s (i + 1) = 92
      · rw [strLoop_esc _ _ _ _ h92 hy] at h
        obtain ⟨l, h1, h2, h3⟩ := strLoop_inv s f (i + 2) _ j l' h
        have hi : i < s.size := pk_lt (by rw [h92]; decide)
        have hi2 : i + 1 < s.size := pk_lt (by rcases hy with e | e <;> rw [e] <;> decide)
        refine ⟨pk s (i + 1) :: l, by rw [h1, List.append_assoc]; rfl, ?_, ?_⟩
        · unfold prB at h2 ⊢
          rw [List.all_cons, h2, Bool.and_true]
          rcases hy with e | e <;> rw [e] <;> decide
        · rw [drop_pk hi, drop_pk hi2, h92, h3, escL, if_pos hy]; rfl
      · rw [strLoop_esc_bad _ _ _ _ h92 hy] at h; simp at h
    cases hp : prC (pk s i) with
    | false => rw [strLoop_bad _ _ _ _ h34 h92 hp] at h; simp at h
    | true =>
      rw [strLoop_next _ _ _ _ h34 h92 hp] at h
      obtain ⟨l, h1, h2, h3⟩ := strLoop_inv s f (i + 1) _ j l' h
      have hi : i < s.size := pk_lt (fun e => by rw [e] at hp; exact absurd hp (by decide))
      refine ⟨pk s i :: l, by rw [h1, List.append_assoc]; rfl, ?_, ?_⟩
      · unfold prB at h2 ⊢
        rw [List.all_cons, h2, Bool.and_true]; exact hp
      · rw [drop_pk hi, h3, escL, if_neg (by rintro (e | e); exact h34 e; exact h92 e)]; rfl
theorem strSp_inv {s : ByteArray} {i j : Nat} {l : List UInt8} (hi : i < s.size) (h34 : pk s i = 34) (h : strSp s i = (j, true, l)) : s.data.toList.drop i = quoL l ++ s.data.toList.drop j ∧ prB l = true := by
  unfold strSp at h
  obtain ⟨q, hq⟩ : ∃ q, q = strLoop s (s.size + 1) (i + 1) [] := ⟨_, rfl⟩
  have hpl := (strLoop_place s (s.size + 1) (i + 1) [] (by omega)).2.2 (by omega) (by omega)
  rw [← hq] at h hpl
  obtain ⟨j', ok, l'⟩ := q
  simp only [Prod.mk.injEq] at h
  obtain ⟨h1, rfl, rfl⟩ := h
  rw [if_pos rfl] at h1
  subst h1
  have hend := hpl rfl
  obtain ⟨l2, h2, h3, h4⟩ := strLoop_inv s _ _ _ j' l' hq.symm
  rw [List.nil_append] at h2
  subst h2
  have hj : j' < s.size := pk_lt (by rw [hend]; decide)
  refine ⟨?_, h3⟩
  rw [drop_pk hi, h34, h4, drop_pk hj, hend, quoL]
  simp

end Go.Proofs.YtggngahmafbihaaGreatDoor
namespace Go.Proofs.YtggngahmafbihaaGreatDoor
open Go.RowKit Go.Lib
set_option linter.unusedVariables false

def smB (c : UInt8) : Bool := decide (97 ≤ c.toNat ∧ c.toNat ≤ 122) || c == 95
def gtB (c : UInt8) : Bool := decide (65 ≤ c.toNat ∧ c.toNat ≤ 90)
/-- How many bytes from a place on are of a sort; with fuel. -/
def runN (s : ByteArray) (p : UInt8 → Bool) : Nat → Nat → Nat
  | 0, _ => 0
  | f + 1, i => if i < s.size ∧ p (pk s i) = true then runN s p f (i + 1) + 1 else 0
def run (s : ByteArray) (p : UInt8 → Bool) (i : Nat) : Nat := runN s p (s.size + 1) i
theorem runN_le (s : ByteArray) (p : UInt8 → Bool) : ∀ (f i : Nat), i ≤ s.size → i + runN s p f i ≤ s.size
  | 0, i, h => h
  | f + 1, i, h => by
    unfold runN
    split
    · rename_i hc
      have := runN_le s p f (i + 1) (by omega)
      omega
    · exact h

/-- What one word is: an error, or a word of so many bytes. -/
inductive WR where
  | bad (c : Nat)
  | word (n : Nat) (t : Tok)

/-- The keys, and the signs, rising. -/
def keysL : List ByteArray := [⟨#[97, 110, 121]⟩, ⟨#[98, 114, 101, 97, 107]⟩, ⟨#[99, 111, 110, 116, 105, 110, 117, 101]⟩, ⟨#[101, 108, 115, 101]⟩, ⟨#[101, 108, 115, 101, 105, 102]⟩, ⟨#[101, 110, 100, 102, 111, 114]⟩, ⟨#[101, 110, 100, 102, 111, 114, 107]⟩, ⟨#[101, 110, 100, 105, 102]⟩, ⟨#[101, 110, 100, 116, 114, 121]⟩, ⟨#[101, 110, 100, 119, 104, 105, 108, 101]⟩, ⟨#[101, 120, 99, 101, 112, 116]⟩, ⟨#[102, 105, 110, 97, 108, 108, 121]⟩, ⟨#[102, 111, 114]⟩, ⟨#[102, 111, 114, 107]⟩, ⟨#[105, 102]⟩, ⟨#[105, 110]⟩, ⟨#[114, 101, 116, 117, 114, 110]⟩, ⟨#[116, 114, 121]⟩, ⟨#[119, 104, 105, 108, 101]⟩]
def signsL : List ByteArray := [⟨#[33]⟩, ⟨#[33, 61]⟩, ⟨#[36]⟩, ⟨#[37]⟩, ⟨#[38, 38]⟩, ⟨#[39]⟩, ⟨#[40]⟩, ⟨#[41]⟩, ⟨#[42]⟩, ⟨#[43]⟩, ⟨#[44]⟩, ⟨#[45]⟩, ⟨#[46]⟩, ⟨#[46, 46]⟩, ⟨#[47]⟩, ⟨#[58]⟩, ⟨#[59]⟩, ⟨#[60]⟩, ⟨#[60, 61]⟩, ⟨#[61]⟩, ⟨#[61, 61]⟩, ⟨#[61, 62]⟩, ⟨#[62]⟩, ⟨#[62, 61]⟩, ⟨#[63]⟩, ⟨#[64]⟩, ⟨#[91]⟩, ⟨#[93]⟩, ⟨#[96]⟩, ⟨#[123]⟩, ⟨#[124]⟩, ⟨#[124, 124]⟩, ⟨#[125]⟩]

/-- A number from a place on: the number and its digits, or an error. -/
def dgsSp (s : ByteArray) (i : Nat) : Nat ⊕ (Int × Nat) :=
  let n := run s digB i
  if n = 0 ∨ (1 < n ∧ pk s i = 48) ∨ (i + n < s.size ∧ (smB (pk s (i + n)) = true ∨ gtB (pk s (i + n)) = true)) then .inl 111
  else if 9223372036854775807 < dval 0 (s.extract i (i + n)).data.toList then .inl 105
  else .inr (dval 0 (s.extract i (i + n)).data.toList, n)

/-- Where a text in quotes ends: behind its second quote; none: it does not on its line. -/
def quoEnd (s : ByteArray) : Nat → Nat → Option Nat
  | 0, _ => none
  | f + 1, i =>
    if i < s.size ∧ prC (pk s i) = true then
      if pk s i = 34 then some (i + 1)
      else if pk s i = 92 then quoEnd s f (i + 2)
      else quoEnd s f (i + 1)
    else none
/-- A text in quotes, whole, as a value; or why it is none. -/
def strW (sub : ByteArray) : Nat ⊕ ByteArray :=
  let r := strSp sub 0
  if r.2.1 = true ∧ sub.size ≤ r.1 then (if 4096 ≤ r.2.2.length then .inl 105 else .inr ⟨r.2.2.toArray⟩) else .inl 111
/-- The longest sign that stands at a place. -/
def signAt (s : ByteArray) (i : Nat) : List ByteArray → ByteArray → ByteArray
  | [], b => b
  | x :: l, b => signAt s i l (if b.size < x.size ∧ x.data.toList.isPrefixOf (s.data.toList.drop i) = true then x else b)
/-- One word, that is no space and no end of a line. -/
def wordR (s : ByteArray) (i : Nat) (line : Int) : WR :=
  let c := pk s i
  if smB c = true then
    let n := run s (fun c => smB c || digB c) i
    if 32 < n ∨ (i + n < s.size ∧ gtB (pk s (i + n)) = true) then .bad 111
    else .word n ⟨if keysL.contains (s.extract i (i + n)) then 2 else 1, line, s.extract i (i + n), 0, 0, ⟨#[]⟩⟩
  else if digB c = true then
    match dgsSp s i with
    | .inl e => .bad e
    | .inr (v, n) => .word n ⟨3, line, ⟨#[]⟩, 0, v, ⟨#[]⟩⟩
  else if gtB c = true then
    let n := run s (fun c => gtB c || c == 95) i
    let k := codeOf (s.extract i (i + n))
    if k < 0 ∨ (i + n < s.size ∧ (smB (pk s (i + n)) = true ∨ digB (pk s (i + n)) = true)) then .bad 111
    else .word n ⟨3, line, ⟨#[]⟩, 3, k, ⟨#[]⟩⟩
  else if c = 35 then
    let neg := pk s (i + 1) == 45
    let j := if neg then i + 2 else i + 1
    match dgsSp s j with
    | .inl e => .bad e
    | .inr (v, n) =>
      if neg = true ∧ v = 0 then .bad 111
      else
        let v := if neg then -v else v
        if v < -2147483648 ∨ 2147483647 < v then .bad 105 else .word (j + n - i) ⟨3, line, ⟨#[]⟩, 1, v, ⟨#[]⟩⟩
  else if c = 34 then
    match quoEnd s (s.size + 1) (i + 1) with
    | none => .bad 111
    | some j =>
      match strW (s.extract i j) with
      | .inl e => .bad e
      | .inr t => .word (j - i) ⟨3, line, ⟨#[]⟩, 2, 0, t⟩
  else
    let b := signAt s i signsL ⟨#[]⟩
    if b.size = 0 then .bad 111 else .word b.size ⟨4, line, b, 0, 0, ⟨#[]⟩⟩
/-- All words of a text, from a place and a line on; or the error and its line. -/
def allSp (s : ByteArray) : Nat → Nat → Int → List Tok → (Nat × Int) ⊕ List Tok
  | 0, _, _, out => .inr out
  | f + 1, i, line, out =>
    if i < s.size then
      if pk s i = 10 then allSp s f (i + 1) (line + 1) out
      else if pk s i = 32 then allSp s f (i + 1) line out
      else match wordR s i line with
        | .bad c => .inl (c, line)
        | .word n t => allSp s f (i + n) line (out ++ [t])
    else .inr out
def allW (s : ByteArray) : (Nat × Int) ⊕ List Tok := allSp s (s.size + 1) 0 1 []
end Go.Proofs.YtggngahmafbihaaGreatDoor
namespace Go.Proofs.YtggngahmafbihaaGreatDoor

def nmCh (c : UInt8) : Bool := (decide (97 ≤ c) && decide (c ≤ 122)) || (decide (48 ≤ c) && decide (c ≤ 57)) || c == 95
/-- Is a text a name? -/
def nameB (s : ByteArray) : Bool :=
  decide (1 ≤ s.size) && decide (s.size ≤ 32) && !(decide (48 ≤ s.data.toList.getD 0 0) && decide (s.data.toList.getD 0 0 ≤ 57)) && s.data.toList.all nmCh && !keysL.contains s

def isExpr (op : Int) : Bool := decide (1 ≤ op) && decide (op ≤ 29) && op != 26
def standsP (op : Int) : Nat → Bool
  | 0 => isExpr op
  | 1 => isExpr op || op == 26
  | 2 => op == 2 || op == 22 || op == 20
  | 3 => op == 2
  | 4 => op == 2 || op == 26
  | 5 => op == 25
  | 6 => op == 52
  | 8 => op == 50
  | _ => decide (40 ≤ op) && decide (op ≤ 51) && op != 50
def namedP (op : Int) : Bool × Bool := if op = 2 ∨ op = 24 ∨ op = 42 ∨ op = 43 then (true, false) else if op = 50 then (true, true) else (false, false)
def loopsP (op : Int) : Bool := op == 42 || op == 43 || op == 44

/-- What is amiss with what a node itself has: 0 nothing, 1 its shape, 2 its name. -/
def ownN (op : Int) (s : ByteArray) (k n : Int) (t : ByteArray) (v : VL) (m : Nat) (role : Nat) (loop : Bool) : Nat :=
  let fair := standsP op role && (loop || (op != 45 && op != 46)) &&
    (if op = 1 then k != 4 && (walk1 k n t v 1 4096).1 == 0 && (k != 0 || n != -9223372036854775808) else k == 0 && n == 0 && t.size == 0 && v.len == 0)
  if !fair || !(rolesP op m).2 || (!(namedP op).1 && s.size != 0) then 1
  else if (namedP op).1 && !nameB s && !((namedP op).2 && s.size == 0) then 2
  else 0
/-- The role of the j-th of what a node has, and whether it stands in a loop. -/
def subRole (op : Int) (m : Nat) (role : Nat) (loop : Bool) (j : Nat) : Nat × Bool :=
  let r := if role = 5 then 0 else if role = 2 ∧ op = 20 ∧ j = 0 then 2 else if role = 4 ∧ op = 26 then 3 else (rolesP op m).1.getD j 0
  (r, (loop && op != 48) || (loopsP op && r == 6))
/-- The first that is amiss: its line, and what. -/
def walkN : NL → (Nat → Nat × Bool) → Nat → Option (Int × Nat)
  | .nil, _, _ => none
  | .cons op ln s k n t v sub r, f, i =>
    if ownN op s k n t v sub.len (f i).1 (f i).2 ≠ 0 then some (ln, ownN op s k n t v sub.len (f i).1 (f i).2)
    else match walkN sub (subRole op sub.len (f i).1 (f i).2) 0 with
      | some e => some e
      | none => walkN r f (i + 1)
def rightN (l : NL) (role : Nat) : Bool := decide (l.tot ≤ 4096) && decide (l.deep ≤ 40) && (walkN l (fun _ => (role, false)) 0).isNone
end Go.Proofs.YtggngahmafbihaaGreatDoor
namespace Go.Proofs.YtggngahmafbihaaGreatDoor
open Go.RowKit Go.Lib
set_option linter.unusedVariables false

/-- Are two lists of values alike? -/
def sameL : VL → VL → Bool
  | .nil, .nil => true
  | .cons k n s a r, .cons k' n' s' a' r' => (sameL a a' && decide (k = k') && decide (n = n') && decide (s = s')) && sameL r r'
  | _, _ => false
/-- Are two values alike? -/
def same1 (k n : Int) (s : ByteArray) (a : VL) (k' n' : Int) (s' : ByteArray) (a' : VL) : Bool := sameL a a' && decide (k = k') && decide (n = n') && decide (s = s')
theorem sameL_iff : ∀ a b : VL, sameL a b = true ↔ a = b
  | .nil, .nil => by simp [sameL]
  | .nil, .cons .. => by simp [sameL]
  | .cons .., .nil => by simp [sameL]
  | .cons k n s a r, .cons k' n' s' a' r' => by
    rw [sameL, Bool.and_eq_true, Bool.and_eq_true, Bool.and_eq_true, Bool.and_eq_true, sameL_iff a a', sameL_iff r r', decide_eq_true_eq, decide_eq_true_eq, decide_eq_true_eq]
    constructor
    · rintro ⟨⟨⟨⟨rfl, rfl⟩, rfl⟩, rfl⟩, rfl⟩; rfl
    · intro h; injection h with h1 h2 h3 h4 h5; exact ⟨⟨⟨⟨h4, h1⟩, h2⟩, h3⟩, h5⟩
theorem same1_iff {k n : Int} {s : ByteArray} {a : VL} {k' n' : Int} {s' : ByteArray} {a' : VL} : same1 k n s a k' n' s' a' = true ↔ k = k' ∧ n = n' ∧ s = s' ∧ a = a' := by
  unfold same1
  rw [Bool.and_eq_true, Bool.and_eq_true, Bool.and_eq_true, sameL_iff, decide_eq_true_eq, decide_eq_true_eq, decide_eq_true_eq]
  constructor
  · rintro ⟨⟨⟨rfl, rfl⟩, rfl⟩, rfl⟩; exact ⟨rfl, rfl, rfl, rfl⟩
  · rintro ⟨rfl, rfl, rfl, rfl⟩; exact ⟨⟨⟨rfl, rfl⟩, rfl⟩, rfl⟩
end Go.Proofs.YtggngahmafbihaaGreatDoor
namespace Go.Proofs.YtggngahmafbihaaGreatDoor

/-- Two rows of nodes alike but for lines. -/
def sameN : NL → NL → Bool
  | .nil, .nil => true
  | .cons op _ s k n t v sub r, .cons op' _ s' k' n' t' v' sub' r' => same1 k n t v k' n' t' v' && decide (op = op') && decide (s = s') && sameN sub sub' && sameN r r'
  | _, _ => false
end Go.Proofs.YtggngahmafbihaaGreatDoor
namespace Go.Proofs.YtggngahmafbihaaGreatDoor

/-- What a whole text is: words that are none; a fault; an expression. -/
inductive ExR where
  | lex (c : Nat) (line : Int)
  | bad (e : Option Int)
  | good (n : NL)
  | out
def exprR (F : Nat) (s : List UInt8) : ExR := match allW ⟨s.toArray⟩ with
  | .inl (c, ln) => .lex c ln
  | .inr l => match prsR l F .expr ⟨0, 0, none⟩ with
    | none => .out
    | some (n, p) =>
      let p := if p.pos < l.length then failS l p else p
      match p.err with
      | some e => .bad e
      | none => .good n
def ExR.two : ExR → ExR → Bool
  | .good a, .good b => sameN a b
  | _, _ => false
def ExR.op : ExR → Int
  | .good a => a.op
  | _ => 0
/-- Ways to write one expression. -/
def waysL : List (List UInt8 × List UInt8) := [([36, 120], [35, 48, 46, 120]), ([97, 46, 40, 34, 98, 34, 41], [97, 46, 98]), ([97, 58, 40, 34, 98, 34, 41, 40, 49, 41], [97, 58, 98, 40, 49, 41]), ([40, 40, 97, 41, 41], [97]), ([40, 97, 46, 98, 41, 46, 99], [97, 46, 98, 46, 99]), ([40, 97, 91, 49, 93, 41, 91, 50, 93], [97, 91, 49, 93, 91, 50, 93]), ([45, 40, 49, 41], [45, 40, 49, 41]), ([45, 32, 49], [45, 49]), ([33, 97, 32, 38, 38, 32, 98], [40, 33, 97, 41, 32, 38, 38, 32, 98]), ([45, 97, 46, 98], [45, 40, 97, 46, 98, 41]), ([97, 32, 63, 32, 98, 32, 124, 32, 99, 32, 63, 32, 100, 32, 124, 32, 101], [97, 32, 63, 32, 98, 32, 124, 32, 40, 99, 32, 63, 32, 100, 32, 124, 32, 101, 41]), ([97, 32, 61, 32, 98, 32, 61, 32, 99], [97, 32, 61, 32, 40, 98, 32, 61, 32, 99, 41]), ([36, 102, 40, 49, 41], [35, 48, 46, 102]), ([123, 64, 97, 44, 32, 98, 125], [123, 32, 64, 32, 40, 97, 41, 32, 44, 32, 98, 32, 125]), ([96, 97, 32, 33, 32, 97, 110, 121, 32, 61, 62, 32, 49, 39], [96, 97, 32, 33, 32, 97, 110, 121, 32, 61, 62, 32, 40, 49, 41, 39])]
def ExR.fault : ExR → Bool
  | .bad (some _) => true
  | _ => false
def ExR.faultAt (ln : Int) : ExR → Bool
  | .bad (some l) => decide (l = ln)
  | _ => false
def ExR.wrong (ln : Int) : ExR → Bool
  | .good a => match walkN a (fun _ => (7, false)) 0 with
    | some (l, _) => decide (l = ln) && !rightN a 7
    | none => false
  | _ => false
end Go.Proofs.YtggngahmafbihaaGreatDoor
namespace Go.Proofs.YtggngahmafbihaaGreatDoor
open Go.RowKit Go.Lib
set_option linter.unusedVariables false

/-- A node in a block of its own. -/
def NdB (w : World) (g : Nat) (a b c d e f h i : Value) : Prop := w.heap[g]? = some (.cells #[a, b, c, d, e, f, h, i] 31 (0, 0))
section
variable {w w' : World} {g : Nat} {a b c d e f h i : Value}
theorem NdB.lt (H : NdB w g a b c d e f h i) : g < w.heap.size := by
  rcases Nat.lt_or_ge g w.heap.size with hlt | hge
  · exact hlt
  · unfold NdB at H; rw [Array.getElem?_eq_none hge] at H; cases H
theorem NdB.new (w : World) (a b c d e f h i : Value) : NdB (w.alloc (.cells #[a, b, c, d, e, f, h, i] 31)) w.heap.size a b c d e f h i := heap_alloc_new w _
theorem NdB.c0 (H : NdB w g a b c d e f h i) : w.cell? ⟨g, 0, none⟩ = some a := cell_of_row w g 0 _ _ _ H
theorem NdB.c1 (H : NdB w g a b c d e f h i) : w.cell? ⟨g, 1, none⟩ = some b := cell_of_row w g 1 _ _ _ H
theorem NdB.c2 (H : NdB w g a b c d e f h i) : w.cell? ⟨g, 2, none⟩ = some c := cell_of_row w g 2 _ _ _ H
theorem NdB.c3 (H : NdB w g a b c d e f h i) : w.cell? ⟨g, 3, none⟩ = some d := cell_of_row w g 3 _ _ _ H
theorem NdB.c4 (H : NdB w g a b c d e f h i) : w.cell? ⟨g, 4, none⟩ = some e := cell_of_row w g 4 _ _ _ H
theorem NdB.c5 (H : NdB w g a b c d e f h i) : w.cell? ⟨g, 5, none⟩ = some f := cell_of_row w g 5 _ _ _ H
theorem NdB.c6 (H : NdB w g a b c d e f h i) : w.cell? ⟨g, 6, none⟩ = some h := cell_of_row w g 6 _ _ _ H
theorem NdB.c7 (H : NdB w g a b c d e f h i) : w.cell? ⟨g, 7, none⟩ = some i := cell_of_row w g 7 _ _ _ H
theorem NdB.fr (H : NdB w g a b c d e f h i) (k : Nat) : w.frozen? ⟨g, k, none⟩ = false := by unfold NdB at H; simp [World.frozen?, H]
theorem NdB.below {B : Nat} (H : NdB w g a b c d e f h i) (hb : Below B w w') (hB : g < B) : NdB w' g a b c d e f h i := (hb.block g hB).trans H
theorem NdB.below' (H : NdB w g a b c d e f h i) (hb : Below w.heap.size w w') : NdB w' g a b c d e f h i := (hb.block g H.lt).trans H
theorem NdB.alloc (H : NdB w g a b c d e f h i) (o : Obj) : NdB (w.alloc o) g a b c d e f h i := (Below.heap_alloc w o g H.lt).trans H
end

/-- The i-th node of a list in memory. -/
theorem RpN.nth {w : World} {S : Nat → Prop} {l : NL} {A : Option Addr} {i : Nat} (h : RpN w S l A) (hi : i < l.len) :
    ∃ (b o : Nat) (op ln : Int) (s : ByteArray) (k n : Int) (t : ByteArray) (v : VL) (sub : NL) (va : Option Addr) (vc : Nat) (sa : Option Addr) (sc : Nat),
      A = some ⟨b, o, none⟩ ∧ S b ∧ l.drop i = .cons op ln s k n t v sub (l.drop (i + 1)) ∧
      w.cell? ⟨b, o + i * 8, none⟩ = some (.int .i64 op) ∧ w.cell? ⟨b, o + i * 8 + 1, none⟩ = some (.int .i64 ln) ∧ w.cell? ⟨b, o + i * 8 + 2, none⟩ = some (.string s) ∧
      w.cell? ⟨b, o + i * 8 + 3, none⟩ = some (.int .i64 k) ∧ w.cell? ⟨b, o + i * 8 + 4, none⟩ = some (.int .i64 n) ∧ w.cell? ⟨b, o + i * 8 + 5, none⟩ = some (.string t) ∧
      w.cell? ⟨b, o + i * 8 + 6, none⟩ = some (.slice va v.len vc) ∧ v.len ≤ vc ∧ RpL w S v va ∧
      w.cell? ⟨b, o + i * 8 + 7, none⟩ = some (.slice sa sub.len sc) ∧ sub.len ≤ sc ∧ RpN w S sub sa := by
  obtain ⟨b, o, hA⟩ : ∃ b o, A = some ⟨b, o, none⟩ := by
    cases l with
    | nil => simp [NL.len] at hi
    | cons => obtain ⟨b, o, _, _, _, _, e, _⟩ := h; exact ⟨b, o, e⟩
  subst hA
  obtain ⟨op, ln, s, k, n, t, v, sub, hd⟩ := NL.drop_of_lt i l hi
  have hdr := RpN.drop i l b o h
  rw [hd] at hdr
  obtain ⟨b', o', va, vc, sa, sc, e, hS, c0, c1, c2, c3, c4, c5, c6, h6, hv, c7, h7, hs, _⟩ := hdr
  injection e with e
  injection e with e1 e2
  subst e1
  subst e2
  rw [Nat.mul_comm 8 i] at c0 c1 c2 c3 c4 c5 c6 c7
  exact ⟨b, o, op, ln, s, k, n, t, v, sub, va, vc, sa, sc, rfl, hS, hd, c0, c1, c2, c3, c4, c5, c6, h6, hv, c7, h7, hs⟩

namespace NL
theorem fit_drop : ∀ (i : Nat) (l : NL), l.fit → (l.drop i).fit
  | 0, l, h => by rw [NL.drop]; exact h
  | i + 1, .nil, h => h
  | i + 1, .cons _ _ _ _ _ _ _ _ r, h => fit_drop i r h.2.2.2.2.2.2
theorem tot_drop : ∀ (i : Nat) (l : NL), (l.drop i).tot ≤ l.tot
  | 0, l => by rw [NL.drop]; exact Nat.le_refl _
  | i + 1, .nil => Nat.le_refl _
  | i + 1, .cons _ _ _ _ _ _ _ sub r => by have := tot_drop i r; simp only [NL.drop, NL.tot]; omega
theorem deep_tot : ∀ l : NL, l.deep ≤ l.tot
  | .nil => Nat.le_refl _
  | .cons _ _ _ _ _ _ _ sub r => by
    have := deep_tot sub; have := deep_tot r
    simp only [NL.deep, NL.tot]
    exact Nat.max_le.2 ⟨by omega, by omega⟩
end NL

/-- How many nodes there are, up to one more than may be. -/
def countN : NL → Int → Int
  | .nil, n => n
  | .cons _ _ _ _ _ _ _ sub r, n => if 4096 < n + 1 then n + 1 else if 4096 < countN sub (n + 1) then countN sub (n + 1) else countN r (countN sub (n + 1))
theorem countN_eq : ∀ (l : NL) (n : Int), 0 ≤ n → n ≤ 4096 → countN l n = if n + l.tot ≤ 4096 then n + l.tot else 4097
  | .nil, n, h0, h1 => by
    rw [countN, if_pos (by simp only [NL.tot]; omega)]; simp [NL.tot]
  | .cons op ln s k m t v sub r, n, h0, h1 => by
    rw [countN]
    obtain ⟨T, hT⟩ : ∃ T, T = (NL.cons op ln s k m t v sub r).tot := ⟨_, rfl⟩
    rw [← hT]
    simp only [NL.tot] at hT
    by_cases h : 4096 < n + 1
    · rw [if_pos h, if_neg (by omega)]; omega
    · rw [if_neg h]
      have e1 := countN_eq sub (n + 1) (by omega) (by omega)
      by_cases h2 : n + 1 + sub.tot ≤ 4096
      · rw [if_pos h2] at e1
        rw [e1, if_neg (by omega), countN_eq r _ (by omega) h2]
        by_cases h3 : n + 1 + sub.tot + r.tot ≤ 4096
        · rw [if_pos h3, if_pos (by omega)]; omega
        · rw [if_neg h3, if_neg (by omega)]
      · rw [if_neg h2] at e1
        rw [e1, if_pos (by omega), if_neg (by omega)]
theorem countN_range (l : NL) (n : Int) (h0 : 0 ≤ n) (h1 : n ≤ 4096) : 0 ≤ countN l n ∧ countN l n ≤ 4097 := by
  rw [countN_eq l n h0 h1]; split <;> omega
end Go.Proofs.YtggngahmafbihaaGreatDoor
namespace Go.Proofs.YtggngahmafbihaaGreatDoor
open Go.RowKit Go.Lib
set_option linter.unusedVariables false

/-- The cells of a row of nodes. -/
def NRow (w : World) (S : Nat → Prop) : NL → List Value → Prop
  | .nil, xs => xs = []
  | .cons op ln s k n t v sub r, xs => ∃ (va : Option Addr) (vc : Nat) (sa : Option Addr) (sc : Nat) (ys : List Value), xs = [.int .i64 op, .int .i64 ln, .string s, .int .i64 k, .int .i64 n, .string t, .slice va v.len vc, .slice sa sub.len sc] ++ ys ∧
      v.len ≤ vc ∧ RpL w S v va ∧ sub.len ≤ sc ∧ RpN w S sub sa ∧ NRow w S r ys
theorem nrow_len {w : World} {S : Nat → Prop} : ∀ (l : NL) (xs : List Value), NRow w S l xs → xs.length = l.len * 8
  | .nil, xs, h => by rw [show xs = [] from h]; rfl
  | .cons _ _ _ _ _ _ _ _ r, xs, ⟨_, _, _, _, ys, h, _, _, _, _, hr⟩ => by
    rw [h, List.length_append, nrow_len r ys hr, NL.len]
    simp only [List.length_cons, List.length_nil]; omega
theorem nrow_one {w : World} {S : Nat → Prop} : ∀ (l : NL) (xs : List Value), NRow w S l xs → ∀ u ∈ xs, u.oneCell' = true
  | .nil, xs, h, u, hu => by rw [show xs = [] from h] at hu; cases hu
  | .cons _ _ _ _ _ _ _ _ r, xs, ⟨_, _, _, _, ys, h, _, _, _, _, hr⟩, u, hu => by
    rw [h, List.mem_append] at hu
    rcases hu with hu | hu
    · simp only [List.mem_cons, List.not_mem_nil, or_false] at hu
      rcases hu with rfl | rfl | rfl | rfl | rfl | rfl | rfl | rfl <;> rfl
    · exact nrow_one r ys hr u hu
theorem nrow_keep {w w' : World} {S S' : Nat → Prop} (hw : ∀ b, S b → w'.heap[b]? = w.heap[b]?) (hS : ∀ b, S b → S' b) : ∀ (l : NL) (xs : List Value), NRow w S l xs → NRow w' S' l xs
  | .nil, _, h => h
  | .cons _ _ _ _ _ _ _ _ r, xs, ⟨va, vc, sa, sc, ys, h, h1, h2, h3, h4, hr⟩ => ⟨va, vc, sa, sc, ys, h, h1, RpL.keep hw hS _ _ h2, h3, RpN.keep hw hS _ _ h4, nrow_keep hw hS r ys hr⟩
theorem nrow_app {w : World} {S : Nat → Prop} : ∀ (a b : NL) (xs ys : List Value), NRow w S a xs → NRow w S b ys → NRow w S (a.app b) (xs ++ ys)
  | .nil, b, xs, ys, h, hb => by rw [show xs = [] from h, NL.app]; exact hb
  | .cons _ _ _ _ _ _ _ _ r, b, xs, ys, ⟨va, vc, sa, sc, zs, h, h1, h2, h3, h4, hr⟩, hb => ⟨va, vc, sa, sc, zs ++ ys, by rw [h, List.append_assoc], h1, h2, h3, h4, nrow_app r b zs ys hr hb⟩
/-- A row in memory has such cells. -/
theorem nrow_of {w : World} {S : Nat → Prop} : ∀ (l : NL) (A : Option Addr), RpN w S l A → ∃ xs, NRow w S l xs ∧ ∀ b o, A = some ⟨b, o, none⟩ → ∀ (j : Nat) (u : Value), xs[j]? = some u → w.cell? ⟨b, o + j, none⟩ = some u
  | .nil, A, _ => ⟨[], rfl, fun b o _ j u h => by simp at h⟩
  | .cons op ln s k n t v sub r, A, ⟨b', o', va, vc, sa, sc, hA, hb, h0, h1, h2, h3, h4, h5, h6, hv, hvr, h7, hc, hs, hr⟩ => by
    obtain ⟨ys, hy, hc2⟩ := nrow_of r _ hr
    refine ⟨_, ⟨va, vc, sa, sc, ys, rfl, hv, hvr, hc, hs, hy⟩, fun b o e j u hu => ?_⟩
    rw [hA] at e
    injection e with e
    injection e with e1 e2
    subst e1; subst e2
    match j with
    | 0 => rw [← hu]; exact h0
    | 1 => rw [← hu]; exact h1
    | 2 => rw [← hu]; exact h2
    | 3 => rw [← hu]; exact h3
    | 4 => rw [← hu]; exact h4
    | 5 => rw [← hu]; exact h5
    | 6 => rw [← hu]; exact h6
    | 7 => rw [← hu]; exact h7
    | j + 8 =>
      have := hc2 b' (o' + 8) rfl j u (by simpa using hu)
      rw [show o' + (j + 8) = o' + 8 + j from by omega]; exact this
/-- Where such cells lie, there is the row. -/
theorem rpn_of {w : World} {S : Nat → Prop} {b : Nat} (hb : S b) : ∀ (l : NL) (xs : List Value) (o : Nat), NRow w S l xs → (∀ (j : Nat) (u : Value), xs[j]? = some u → w.cell? ⟨b, o + j, none⟩ = some u) → RpN w S l (some ⟨b, o, none⟩)
  | .nil, _, _, _, _ => trivial
  | .cons op ln s k n t v sub r, xs, o, ⟨va, vc, sa, sc, ys, h, h1, h2, h3, h4, hr⟩, hc => by
    subst h
    refine ⟨b, o, va, vc, sa, sc, rfl, hb, hc 0 _ rfl, hc 1 _ rfl, hc 2 _ rfl, hc 3 _ rfl, hc 4 _ rfl, hc 5 _ rfl, hc 6 _ rfl, h1, h2, hc 7 _ rfl, h3, h4, rpn_of hb r ys (o + 8) hr (fun j u hu => ?_)⟩
    have := hc (j + 8) u (by simpa using hu)
    rw [show o + 8 + j = o + (j + 8) from by omega]; exact this
end Go.Proofs.YtggngahmafbihaaGreatDoor
namespace Go.Proofs.YtggngahmafbihaaGreatDoor
open Go.RowKit
set_option linter.unusedVariables false

/-- A word in the midst of a row. -/
structure TkIn (w : World) (g o : Nat) (t : Tok) (sa : Option Addr) (sc : Nat) : Prop where
  c0 : w.cell? ⟨g, o, none⟩ = some (.int .i64 t.kind)
  c1 : w.cell? ⟨g, o + 1, none⟩ = some (.int .i64 t.line)
  c2 : w.cell? ⟨g, o + 2, none⟩ = some (.string t.s)
  c3 : w.cell? ⟨g, o + 3, none⟩ = some (.int .i64 t.k)
  c4 : w.cell? ⟨g, o + 4, none⟩ = some (.int .i64 t.n)
  c5 : w.cell? ⟨g, o + 5, none⟩ = some (.string t.t)
  c6 : w.cell? ⟨g, o + 6, none⟩ = some (.slice sa 0 sc)
theorem TkIn.below {w w' : World} {g o B : Nat} {t : Tok} {sa : Option Addr} {sc : Nat} (h : TkIn w g o t sa sc) (hb : Below B w w') (hg : g < B) : TkIn w' g o t sa sc :=
  have hk : ∀ k, w'.cell? ⟨g, k, none⟩ = w.cell? ⟨g, k, none⟩ := fun k => hb.cell (p := ⟨g, k, none⟩) hg
  ⟨(hk _).trans h.c0, (hk _).trans h.c1, (hk _).trans h.c2, (hk _).trans h.c3, (hk _).trans h.c4, (hk _).trans h.c5, (hk _).trans h.c6⟩
end Go.Proofs.YtggngahmafbihaaGreatDoor
