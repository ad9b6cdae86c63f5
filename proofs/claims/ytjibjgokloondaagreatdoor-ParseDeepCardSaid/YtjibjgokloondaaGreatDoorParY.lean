/- Contracts of the functions that the statement reaches, and the plain mathematics beneath: several texts joined. -/
import Derived.Test.YtjibjgokloondaaGreatDoorParD
import Derived.Test.YtjibjgokloondaaGreatDoorParQ
import Derived.Deep.RegionHeld3
import Derived.LaidEql
import Derived.Handy
import Derived.Test.YtjibjgokloondaaGreatDoorParS
import Derived.Test.YtjibjgokloondaaGreatDoorParP
import Derived.Test.YtjibjgokloondaaGreatDoorParN
import Derived.StillTailTactics
import Derived.Test.YtjibjgokloondaaGreatDoorParC
import Derived.Test.YtjibjgokloondaaGreatDoorParA
import Derived.Test.YtjibjgokloondaaGreatDoorParB
import Derived.Test.YtjibjgokloondaaGreatDoorParE
import Derived.Test.YtjibjgokloondaaGreatDoorParF
import Derived.Test.YtjibjgokloondaaGreatDoorParG
import Derived.Test.YtjibjgokloondaaGreatDoorParH
import Derived.Test.YtjibjgokloondaaGreatDoorParI
import Derived.Test.YtjibjgokloondaaGreatDoorParJ
import Derived.Test.YtjibjgokloondaaGreatDoorParK
import Derived.Test.YtjibjgokloondaaGreatDoorParL
import Derived.Test.YtjibjgokloondaaGreatDoorParM
import Derived.Test.YtjibjgokloondaaGreatDoorParO
import Derived.Test.YtjibjgokloondaaGreatDoorParR
import Derived.Test.YtjibjgokloondaaGreatDoorParT
import Derived.Test.YtjibjgokloondaaGreatDoorParU
import Derived.Test.YtjibjgokloondaaGreatDoorParV
import Derived.Test.YtjibjgokloondaaGreatDoorParW
import Derived.Test.YtjibjgokloondaaGreatDoorParX
namespace Go.Proofs.YtjibjgokloondaaGreatDoor
open Go.RowKit Go.Lib
set_option linter.unusedVariables false

def tO (ln : Int) : Tok := ⟨4, ln, ⟨#[40]⟩, 0, 0, ⟨#[]⟩⟩
def tC (ln : Int) : Tok := ⟨4, ln, ⟨#[41]⟩, 0, 0, ⟨#[]⟩⟩
def t1 (ln : Int) : Tok := ⟨3, ln, ⟨#[]⟩, 0, 1, ⟨#[]⟩⟩
/-- The longest sign ahead of a text's rest. -/
def signL (d : List UInt8) : List ByteArray → ByteArray → ByteArray
  | [], b => b
  | x :: l, b => signL d l (if b.size < x.size ∧ x.data.toList.isPrefixOf d = true then x else b)
theorem signAt_L (s : ByteArray) (i : Nat) : ∀ (l : List ByteArray) (b : ByteArray), signAt s i l b = signL (s.data.toList.drop i) l b
  | [], b => rfl
  | x :: l, b => by rw [signAt, signL, signAt_L s i l]
/-- Signs that do not begin with a byte. -/
theorem signL_skip (c : UInt8) (r : List UInt8) : ∀ (l : List ByteArray) (b : ByteArray), (∀ x ∈ l, x.data.toList.head? ≠ some c ∧ x.size ≠ 0) → signL (c :: r) l b = b
  | [], _, _ => rfl
  | x :: l, b, h => by
    have hx := h x (List.mem_cons_self ..)
    have hp : x.data.toList.isPrefixOf (c :: r) = false := by
      cases hq : x.data.toList with
      | nil =>
        have : x.data.toList.length = x.size := by rw [Array.length_toList]; rfl
        rw [hq] at this
        exact absurd this.symm hx.2
      | cons y l' =>
        have h1 := hx.1
        rw [hq] at h1
        simp only [List.head?_cons, ne_eq, Option.some.injEq] at h1
        simp [List.isPrefixOf, h1]
    rw [signL, if_neg (fun h2 => by rw [hp] at h2; cases h2.2)]
    exact signL_skip c r l b (fun y hy => h y (List.mem_cons_of_mem _ hy))
theorem signL_app (d : List UInt8) : ∀ (l m : List ByteArray) (b : ByteArray), signL d (l ++ m) b = signL d m (signL d l b)
  | [], _, _ => rfl
  | x :: l, m, b => by rw [List.cons_append, signL, signL, signL_app d l m]
theorem open_sign (r : List UInt8) : signL (40 :: r) signsL ⟨#[]⟩ = ⟨#[40]⟩ := by
  rw [show signsL = signsL.take 6 ++ (⟨#[40]⟩ :: signsL.drop 7) from rfl, signL_app, signL_skip 40 r (signsL.take 6) _ (by decide +kernel), signL, if_pos ⟨by decide, by simp [List.isPrefixOf]⟩, signL_skip 40 r (signsL.drop 7) _ (by decide +kernel)]
theorem close_sign (r : List UInt8) : signL (41 :: r) signsL ⟨#[]⟩ = ⟨#[41]⟩ := by
  rw [show signsL = signsL.take 7 ++ (⟨#[41]⟩ :: signsL.drop 8) from rfl, signL_app, signL_skip 41 r (signsL.take 7) _ (by decide +kernel), signL, if_pos ⟨by decide, by simp [List.isPrefixOf]⟩, signL_skip 41 r (signsL.drop 8) _ (by decide +kernel)]
theorem open_word {s : ByteArray} {i : Nat} {r : List UInt8} (line : Int) (hd : s.data.toList.drop i = 40 :: r) : wordR s i line = .word 1 (tO line) := by
  have hp := (pk_drop hd).1
  have hs : signAt s i signsL ⟨#[]⟩ = ⟨#[40]⟩ := by rw [signAt_L, hd]; exact open_sign r
  unfold wordR
  simp only [hp, hs]
  rfl
theorem close_word {s : ByteArray} {i : Nat} {r : List UInt8} (line : Int) (hd : s.data.toList.drop i = 41 :: r) : wordR s i line = .word 1 (tC line) := by
  have hp := (pk_drop hd).1
  have hs : signAt s i signsL ⟨#[]⟩ = ⟨#[41]⟩ := by rw [signAt_L, hd]; exact close_sign r
  unfold wordR
  simp only [hp, hs]
  rfl
theorem drop_lt {s : ByteArray} {i : Nat} {c : UInt8} {r : List UInt8} (hd : s.data.toList.drop i = c :: r) : i < s.size := by
  have := drop_len_le (a := [c]) (r := r) hd (by simp)
  simp only [List.length_singleton] at this; omega
theorem allSp_opens {s : ByteArray} {r : List UInt8} : ∀ (n f i : Nat) (line : Int) (out : List Tok), s.data.toList.drop i = List.replicate n 40 ++ r → allSp s (f + n) i line out = allSp s f (i + n) line (out ++ List.replicate n (tO line))
  | 0, f, i, line, out, _ => by simp
  | n + 1, f, i, line, out, hd => by
    rw [List.replicate_succ, List.cons_append] at hd
    obtain ⟨k, d⟩ := pk_drop hd
    rw [show f + (n + 1) = (f + n) + 1 by omega, allSp_word (drop_lt hd) (by rw [k]; decide) (by rw [k]; decide) (open_word line hd), allSp_opens n f (i + 1) line _ d, List.replicate_succ, List.append_assoc]
    rw [show i + 1 + n = i + (n + 1) by omega]; rfl
theorem allSp_closes {s : ByteArray} {r : List UInt8} : ∀ (n f i : Nat) (line : Int) (out : List Tok), s.data.toList.drop i = List.replicate n 41 ++ r → allSp s (f + n) i line out = allSp s f (i + n) line (out ++ List.replicate n (tC line))
  | 0, f, i, line, out, _ => by simp
  | n + 1, f, i, line, out, hd => by
    rw [List.replicate_succ, List.cons_append] at hd
    obtain ⟨k, d⟩ := pk_drop hd
    rw [show f + (n + 1) = (f + n) + 1 by omega, allSp_word (drop_lt hd) (by rw [k]; decide) (by rw [k]; decide) (close_word line hd), allSp_closes n f (i + 1) line _ d, List.replicate_succ, List.append_assoc]
    rw [show i + 1 + n = i + (n + 1) by omega]; rfl
def brT (n : Nat) : List UInt8 := List.replicate n 40 ++ 49 :: List.replicate n 41
def brL (n : Nat) : List Tok := List.replicate n (tO 1) ++ t1 1 :: List.replicate n (tC 1)
theorem stop_close (n : Nat) : Stop (List.replicate n 41) := by
  intro c t e
  cases n with
  | zero => cases e
  | succ n => rw [List.replicate_succ] at e; injection e with e _; rw [← e]; decide
theorem drop_at (s : ByteArray) (n : Nat) (a b : List UInt8) (h : s.data.toList = a ++ b) (hn : a.length = n) : s.data.toList.drop n = b := by
  rw [h, ← hn, List.drop_left]
theorem br_all (n : Nat) : allW ⟨(brT n).toArray⟩ = .inr (brL n) := by
  obtain ⟨s, hs⟩ : ∃ s : ByteArray, s = ⟨(brT n).toArray⟩ := ⟨_, rfl⟩
  rw [← hs]
  have hl : s.data.toList = List.replicate n 40 ++ (49 :: List.replicate n 41) := by rw [hs]; rfl
  have hz : s.size = n + (n + 1) := by
    have : s.data.toList.length = s.size := by rw [Array.length_toList]; rfl
    rw [← this, hl]; simp
  unfold allW
  rw [hz, show n + (n + 1) + 1 = (n + 2) + n by omega, allSp_opens n _ 0 1 [] (by rw [List.drop_zero]; exact hl), Nat.zero_add, List.nil_append]
  have hd : s.data.toList.drop n = 49 :: List.replicate n 41 := drop_at s n _ _ hl (by simp)
  have h49 : decDigits 1 = [49] := by decide +kernel
  have hd1 : s.data.toList.drop n = decDigits 1 ++ List.replicate n 41 := by rw [hd, h49]; rfl
  have hw := int_word (line := 1) hd1 (stop_close n)
  rw [if_neg (by decide)] at hw
  have hlen : (decDigits 1).length = 1 := by rw [h49]; rfl
  rw [hlen] at hw
  obtain ⟨k, d⟩ := pk_drop hd
  rw [show n + 2 = (n + 1) + 1 by omega, allSp_word (drop_lt hd) (by rw [k]; decide) (by rw [k]; decide) hw]
  rw [show n + 1 = 1 + n by omega, allSp_closes (r := []) n 1 (1 + n) 1 _ (by rw [List.append_nil, Nat.add_comm]; exact d), allSp_end (by omega)]
  unfold brL
  rw [List.append_assoc]; rfl

/-- Nothing at hand goes on with an expression. -/
def StopsE (l : List Tok) (p : PS) : Prop := ∀ s ∈ ([[61], [63], [124, 124], [38, 38], [61, 61], [33, 61], [60], [60, 61], [62], [62, 61], [105, 110], [43], [45], [42], [47], [37], [91], [46], [58]] : List (List UInt8)), isS l p s = false
theorem stops_err {l : List Tok} {p : PS} (h : p.err.isNone = false) : StopsE l p := by
  intro s _; unfold isS; rw [h]; rfl
theorem find_none {l : List Tok} {p : PS} (h : StopsE l p) (k : Nat) : (levelS k).find? (fun x => isS l p x.1) = none := by
  rw [List.find?_eq_none]
  intro x hx
  have : x.1 ∈ ([[61], [63], [124, 124], [38, 38], [61, 61], [33, 61], [60], [60, 61], [62], [62, 61], [105, 110], [43], [45], [42], [47], [37], [91], [46], [58]] : List (List UInt8)) := by
    match k with
    | 0 => revert x; decide
    | 1 => revert x; decide
    | 2 => revert x; decide
    | 3 => revert x; decide
    | 4 => revert x; decide
    | k + 5 => cases hx
  rw [h _ this]; decide
/-- What binds most, alone. -/
theorem chain_first {l : List Tok} {f : Nat} {p q : PS} {n : NL} (h : prsR l (f + 1) .first p = some (n, q)) (hs : StopsE l q) (h1 : isS l p [45] = false) (h2 : isS l p [33] = false) : prsR l (f + 10) .expr p = some (n, q) := by
  have hb : prsR l (f + 1) (.behind n) q = some (n, q) := by
    rw [prsR]
    by_cases he : q.err.isSome = true
    · rw [if_pos he]
    · rw [if_neg he, if_neg (by rw [hs [91] (by decide)]; decide), if_neg (by rw [hs [46] (by decide)]; decide), if_neg (by rw [hs [58] (by decide)]; decide)]
  have ho : prsR l (f + 2) .one p = some (n, q) := by
    rw [prsR]
    simp only [h1, h2, Bool.false_and, Bool.false_eq_true, if_false]
    rw [h]; exact hb
  have h5 : prsR l (f + 3) (.two 5) p = some (n, q) := by rw [prsR, if_pos (by decide)]; exact ho
  have hL : ∀ (g k : Nat), prsR l (g + 1) (.twoL k n) q = some (n, q) := fun g k => by rw [prsR, find_none hs]
  have h4 : prsR l (f + 4) (.two 4) p = some (n, q) := by rw [prsR, if_neg (by decide), h5]; exact hL _ _
  have h3 : prsR l (f + 5) (.two 3) p = some (n, q) := by rw [prsR, if_neg (by decide), h4]; exact hL _ _
  have h2' : prsR l (f + 6) (.two 2) p = some (n, q) := by rw [prsR, if_neg (by decide), h3]; exact hL _ _
  have h1' : prsR l (f + 7) (.two 1) p = some (n, q) := by rw [prsR, if_neg (by decide), h2']; exact hL _ _
  have h0 : prsR l (f + 8) (.two 0) p = some (n, q) := by rw [prsR, if_neg (by decide), h1']; exact hL _ _
  have hc : prsR l (f + 9) .cond p = some (n, q) := by
    rw [prsR, h0]
    show (if (!isS l q [63]) = true then some (n, q) else _) = _
    rw [if_pos (by rw [hs [63] (by decide)]; rfl)]
  rw [prsR, hc]
  show (if (!isS l q [61]) = true then some (n, q) else _) = _
  rw [if_pos (by rw [hs [61] (by decide)]; rfl)]

theorem brL_open {n i : Nat} (h : i < n) : (brL n)[i]? = some (tO 1) := by
  unfold brL
  rw [List.getElem?_append_left (by simpa using h)]
  simp [h]
theorem brL_one (n : Nat) : (brL n)[n]? = some (t1 1) := by
  unfold brL
  rw [List.getElem?_append_right (by simp)]
  simp
theorem brL_close {n i : Nat} (h1 : n < i) (h2 : i < 2 * n + 1) : (brL n)[i]? = some (tC 1) := by
  unfold brL
  rw [List.getElem?_append_right (by simp; omega)]
  obtain ⟨j, rfl⟩ : ∃ j, i = n + 1 + j := ⟨i - (n + 1), by omega⟩
  rw [List.length_replicate, show n + 1 + j - n = j + 1 by omega, List.getElem?_cons_succ, List.getElem?_replicate, if_pos (by omega)]
theorem brL_end {n i : Nat} (h : 2 * n + 1 ≤ i) : (brL n)[i]? = none := by
  rw [List.getElem?_eq_none]
  unfold brL; simp; omega
theorem isS_at {l : List Tok} {p : PS} {t : Tok} {s : List UInt8} (he : p.err = none) (h : l[p.pos]? = some t) : isS l p s = ((t.kind == 4 || t.kind == 2) && t.s.data.toList == s) := by
  unfold isS; rw [he, h]; rfl
theorem isS_end {l : List Tok} {p : PS} {s : List UInt8} (h : l[p.pos]? = none) : isS l p s = false := by
  unfold isS; rw [h]; exact Bool.and_false _
theorem isS_err {l : List Tok} {p : PS} {s : List UInt8} {e : Option Int} (h : p.err = some e) : isS l p s = false := by
  unfold isS; rw [h]; rfl
theorem mustS_err {l : List Tok} {p : PS} {s : List UInt8} {e : Option Int} (h : p.err = some e) : mustS l p s = p := by
  unfold mustS failS; rw [isS_err h, h]; rfl
/-- What is read of so many brackets as are left. -/
theorem prs_br (n : Nat) : ∀ (k i : Nat) (d : Int) (f : Nat), i + k = n → 12 * k + 12 ≤ f → 0 ≤ d → d ≤ 160 → ∃ x q, prsR (brL n) f .expr ⟨i, d, none⟩ = some (x, ⟨q, d, if d + k ≤ 160 then none else some none⟩) ∧ (d + k ≤ 160 → x = nd 1 1 ⟨#[]⟩ 0 1 ⟨#[]⟩ .nil ∧ q = 2 * n + 1 - i)
  | 0, i, d, f, hi, hf, h0, h1 => by
    obtain ⟨g, rfl⟩ : ∃ g, f = g + 10 := ⟨f - 10, by omega⟩
    obtain rfl : i = n := by omega
    have hat : (brL i)[i]? = some (t1 1) := brL_one i
    refine ⟨nd 1 1 ⟨#[]⟩ 0 1 ⟨#[]⟩ .nil, i + 1, ?_, fun _ => ⟨rfl, by omega⟩⟩
    rw [if_pos (by omega)]
    have hfst : prsR (brL i) (g + 1) .first ⟨i, d, none⟩ = some (nd 1 1 ⟨#[]⟩ 0 1 ⟨#[]⟩ .nil, ⟨i + 1, d, none⟩) := by
      rw [prsR]
      simp only [hat, lineS]
      rfl
    refine chain_first hfst ?_ (by rw [isS_at rfl hat]; rfl) (by rw [isS_at rfl hat]; rfl)
    intro s hs
    by_cases hn : i = 0
    · rw [isS_end (brL_end (n := i) (by show 2 * i + 1 ≤ i + 1; omega))]
    · rw [isS_at rfl (brL_close (n := i) (by show i < i + 1; omega) (by show i + 1 < 2 * i + 1; omega))]
      revert s; decide
  | k + 1, i, d, f, hi, hf, h0, h1 => by
    obtain ⟨g, rfl⟩ : ∃ g, f = (g + 1) + 11 := ⟨f - 12, by omega⟩
    have hat : (brL n)[i]? = some (tO 1) := brL_open (by omega)
    have hfst : ∀ r, prsR (brL n) (g + 2) (.within [41]) ⟨i + 1, d, none⟩ = r → prsR (brL n) ((g + 2) + 1) .first ⟨i, d, none⟩ = r := by
      intro r hr
      rw [prsR, ← hr]
      simp only [hat]
      rw [isS_at (p := ⟨i, d, none⟩) rfl hat, isS_at (p := ⟨i, d, none⟩) rfl hat]
      rfl
    have hmi : isS (brL n) ⟨i, d, none⟩ [45] = false := by rw [isS_at rfl hat]; rfl
    have hex : isS (brL n) ⟨i, d, none⟩ [33] = false := by rw [isS_at rfl hat]; rfl
    by_cases hd : d + 1 ≤ 160
    · obtain ⟨x, q, hr, hg⟩ := prs_br n k (i + 1) (d + 1) (g + 1) (by omega) (by omega) (by omega) hd
      have hdn : downS ⟨i + 1, d, none⟩ = ⟨i + 1, d + 1, none⟩ := by unfold downS; rw [if_neg (by rintro ⟨h, _⟩; simp only at h; omega)]
      by_cases hk : d + ((k + 1 : Nat) : Int) ≤ 160
      · rw [if_pos (by omega)] at hr
        obtain ⟨rfl, rfl⟩ := hg (by omega)
        have hcl : (brL n)[2 * n + 1 - (i + 1)]? = some (tC 1) := brL_close (by omega) (by omega)
        have hw : prsR (brL n) (g + 2) (.within [41]) ⟨i + 1, d, none⟩ = some (nd 1 1 ⟨#[]⟩ 0 1 ⟨#[]⟩ .nil, ⟨2 * n + 1 - i, d, none⟩) := by
          rw [prsR, hdn]
          show (prsR (brL n) (g + 1) .expr ⟨i + 1, d + 1, none⟩).bind _ = _
          rw [hr]
          show some (_, mustS (brL n) (upS ⟨2 * n + 1 - (i + 1), d + 1, none⟩) [41]) = _
          have hu : upS ⟨2 * n + 1 - (i + 1), d + 1, none⟩ = ⟨2 * n + 1 - (i + 1), d, none⟩ := by unfold upS; simp
          rw [hu]
          unfold mustS
          rw [isS_at rfl hcl]
          show some (_, nextS _) = _
          unfold nextS
          rw [show 2 * n + 1 - (i + 1) + 1 = 2 * n + 1 - i by omega]
        refine ⟨_, _, ?_, fun _ => ⟨rfl, rfl⟩⟩
        rw [if_pos hk]
        refine chain_first (f := g + 2) (hfst _ hw) ?_ hmi hex
        intro s hs
        by_cases hn : i = 0
        · rw [isS_end (brL_end (n := n) (by show 2 * n + 1 ≤ 2 * n + 1 - i; omega))]
        · rw [isS_at rfl (brL_close (n := n) (by show n < 2 * n + 1 - i; omega) (by show 2 * n + 1 - i < 2 * n + 1; omega))]
          revert s; decide
      · rw [if_neg (by omega)] at hr
        have hw : prsR (brL n) (g + 2) (.within [41]) ⟨i + 1, d, none⟩ = some (x, ⟨q, d, some none⟩) := by
          rw [prsR, hdn]
          show (prsR (brL n) (g + 1) .expr ⟨i + 1, d + 1, none⟩).bind _ = _
          rw [hr]
          show some (_, mustS (brL n) (upS ⟨q, d + 1, some none⟩) [41]) = _
          have hu : upS ⟨q, d + 1, some none⟩ = ⟨q, d, some none⟩ := by unfold upS; simp
          rw [hu, mustS_err (e := none) rfl]
        refine ⟨x, q, ?_, fun h => absurd h hk⟩
        rw [if_neg hk]
        exact chain_first (f := g + 2) (hfst _ hw) (stops_err rfl) hmi hex
    · have hdn : downS ⟨i + 1, d, none⟩ = ⟨i + 1, d + 1, some none⟩ := by unfold downS; rw [if_pos ⟨by show 160 < d + 1; omega, rfl⟩]
      have hw : prsR (brL n) (g + 2) (.within [41]) ⟨i + 1, d, none⟩ = some (nd0, ⟨i + 1, d, some none⟩) := by
        rw [prsR, hdn]
        show some (_, mustS (brL n) (upS ⟨i + 1, d + 1, some none⟩) [41]) = _
        have hu : upS ⟨i + 1, d + 1, some none⟩ = ⟨i + 1, d, some none⟩ := by unfold upS; simp
        rw [hu, mustS_err (e := none) rfl]
      refine ⟨nd0, i + 1, ?_, fun h => absurd h (by omega)⟩
      rw [if_neg (by omega)]
      exact chain_first (f := g + 2) (hfst _ hw) (stops_err rfl) hmi hex
end Go.Proofs.YtjibjgokloondaaGreatDoor
namespace Go.Proofs.YtjibjgokloondaaGreatDoor
open Go.RowKit Go.Lib
set_option linter.unusedVariables false

/-- A fault with no value. -/
def fltV (c : Int) (p : Bool) (pos : Int) : Value := .agg #[.int .i64 c, .bool p, .int .i64 pos, .int .i64 0, .int .i64 0, .string ⟨#[]⟩, .slice none 0 0]

set_option maxRecDepth 100000 in
set_option maxHeartbeats 1000000 in
theorem fbare_c (c : Int) (w : World) :
    Calls Tryz.prog 23 #[.int .i64 c] w fun e w' => e = .returned (fltV c false 0) ∧ Below w.heap.size w w' := by
  unfold fltV
  go_enter Tryz.func23, Tryz.ntmps23
  go_wp2
  go_returns
  exact ⟨rfl, (Below.refl _ _).alloc (Nat.le_refl _) _⟩
/-- Seven cells in a block of their own. -/
def StF (w : World) (g : Nat) (a b c d e f h : Value) : Prop := w.heap[g]? = some (.cells #[a, b, c, d, e, f, h] 41 (0, 0))
section
variable {w w' : World} {g : Nat} {a b c d e f h : Value}
theorem StF.new (W : World) (a b c d e f h : Value) : StF (W.alloc (.cells #[a, b, c, d, e, f, h] 41)) W.heap.size a b c d e f h := by unfold StF World.alloc; simp
theorem StF.lt (H : StF w g a b c d e f h) : g < w.heap.size := by
  rcases Nat.lt_or_ge g w.heap.size with hlt | hge
  · exact hlt
  · unfold StF at H; rw [Array.getElem?_eq_none hge] at H; cases H
theorem StF.below (H : StF w g a b c d e f h) (hb : Below w.heap.size w w') : StF w' g a b c d e f h := (hb.block g H.lt).trans H
theorem StF.cells (H : StF w g a b c d e f h) : w.cell? ⟨g, 0, none⟩ = some a ∧ w.cell? ⟨g, 1, none⟩ = some b ∧ w.cell? ⟨g, 2, none⟩ = some c ∧ w.cell? ⟨g, 3, none⟩ = some d ∧ w.cell? ⟨g, 4, none⟩ = some e ∧ w.cell? ⟨g, 5, none⟩ = some f ∧ w.cell? ⟨g, 6, none⟩ = some h :=
  ⟨cell_of_row w g 0 _ _ _ H, cell_of_row w g 1 _ _ _ H, cell_of_row w g 2 _ _ _ H, cell_of_row w g 3 _ _ _ H, cell_of_row w g 4 _ _ _ H, cell_of_row w g 5 _ _ _ H, cell_of_row w g 6 _ _ _ H⟩
theorem StF.fr (H : StF w g a b c d e f h) (k : Nat) : w.frozen? ⟨g, k, none⟩ = false := by unfold StF at H; simp [World.frozen?, H]
end
theorem StF.set7 {w : World} {g : Nat} {a b c d e f h : Value} (H : StF w g a b c d e f h) (a' b' c' d' e' f' h' : Value) :
    StF (((((((w.setCell ⟨g, 0, none⟩ a').setCell ⟨g, 1, none⟩ b').setCell ⟨g, 2, none⟩ c').setCell ⟨g, 3, none⟩ d').setCell ⟨g, 4, none⟩ e').setCell ⟨g, 5, none⟩ f').setCell ⟨g, 6, none⟩ h') g a' b' c' d' e' f' h' := by
  unfold StF at H ⊢; simp [World.setCell, Array.getElem?_modify, H]
theorem below_set7 {w w' : World} {B : Nat} (h : Below B w w') {g : Nat} (hg : B ≤ g) (a b c d e f k : Value) :
    Below B w (((((((w'.setCell ⟨g, 0, none⟩ a).setCell ⟨g, 1, none⟩ b).setCell ⟨g, 2, none⟩ c).setCell ⟨g, 3, none⟩ d).setCell ⟨g, 4, none⟩ e).setCell ⟨g, 5, none⟩ f).setCell ⟨g, 6, none⟩ k) :=
  Below.setCell (Below.setCell (Below.setCell (Below.setCell (Below.setCell (Below.setCell (Below.setCell h hg _) hg _) hg _) hg _) hg _) hg _) hg _
/-- A struct of seven cells handed back. -/
theorem ret_cell7 {fn : Func} {p : Tmp} {Q : Ending → World → Prop} {act : Act} {w : World} (hr : fn.results = #[.cell p 41]) (g : Nat) (hp : act.tmps.getD p undef = .pointer (some ⟨g, 0, none⟩)) (hd : act.defers = [])
    {a b c d e f h : Value} (hS : StF w g a b c d e f h) (hQ : Q (.returned (.agg #[a, b, c, d, e, f, h])) w) : bodyPost Tryz.prog fn Q .ret act w := by
  refine bodyPost_ret (v := .agg #[a, b, c, d, e, f, h]) ?_ hd hQ
  obtain ⟨c0, c1, c2, c3, c4, c5, c6⟩ := hS.cells
  have hp' : (act.tmps[p]?).getD undef = .pointer (some ⟨g, 0, none⟩) := by simpa using hp
  simp [results, hr, hp', go_sem, c0, c1, c2, c3, c4, c5, c6]
theorem belowLe {B B' : Nat} {w w' : World} (h : Below B w w') (hb : B' ≤ B) : Below B' w w' := ⟨h.os, h.tape, h.output, h.size, fun k hk => h.block k (by omega)⟩
end Go.Proofs.YtjibjgokloondaaGreatDoor
namespace Go.Proofs.YtjibjgokloondaaGreatDoor
open Go.RowKit Go.Lib
set_option linter.unusedVariables false

set_option maxRecDepth 100000 in
set_option maxHeartbeats 2000000 in
theorem inner_c (ea : Nat → Addr) (c : Nat) (w : World) (h : SeesAt w ea) (hc : c < 17) :
    Calls Tryz.prog 22 #[.iface 204 (.pointer (some (ea (101 + c))))] w fun e w' => e = .returned (fltV (101 + (c : Int)) false 0) ∧ Below w.heap.size w w' := by
  have ta : ∀ w : World, (Instr.typeAssert (.iface 204 (.pointer (some (ea (101 + c))))) 33 78 true).run Tryz.prog w = .ok (.tuple #[.pointer none, .bool false]) w := fun w => by kernel_rfl
  obtain ⟨w1, hw1⟩ : ∃ w1, w1 = w.alloc (.cells #[.int .i64 0, .bool false, .int .i64 0, .int .i64 0, .int .i64 0, .string ⟨#[]⟩, .slice none 0 0] 41) := ⟨_, rfl⟩
  have hb1 : Below w.heap.size w w1 := by rw [hw1]; exact (Below.refl _ _).alloc (Nat.le_refl _) _
  have hS : StF w1 w.heap.size (.int .i64 0) (.bool false) (.int .i64 0) (.int .i64 0) (.int .i64 0) (.string ⟨#[]⟩) (.slice none 0 0) := by rw [hw1]; exact StF.new w _ _ _ _ _ _ _
  have SC := Lib.hid (sentinel_c ea c w1 (h.below hb1) hc)
  have HB := Lib.hid hb1
  have HS := Lib.hid hS
  have HW := Lib.hid hw1
  have BC := Lib.hid (fun W => fbare_c (101 + (c : Int)) W)
  unfold fltV
  unfold fltV at BC
  clear hb1 hS h hw1
  go_enter Tryz.func22, Tryz.ntmps22
  go_wp2_with fail
  rw [← HW.out]
  refine SC.out.mono ?_
  rintro e w2 ⟨rfl, hb2⟩
  have hs2 := HS.out.below hb2
  have HB2 := Lib.hid (HB.out.trans (belowLe hb2 HB.out.size))
  clear SC hb2
  have HS2 := Lib.hid hs2
  clear hs2
  go_wp2_with fail
  refine (BC.out _).mono ?_
  rintro e w3 ⟨rfl, hb3⟩
  have hs3 := HS2.out.below hb3
  obtain ⟨c0, c1, c2, c3, c4, c5, c6⟩ := hs3.cells
  have f0 := hs3.fr 0; have f1 := hs3.fr 1; have f2 := hs3.fr 2; have f3 := hs3.fr 3; have f4 := hs3.fr 4; have f5 := hs3.fr 5; have f6 := hs3.fr 6
  have HB3 := Lib.hid (HB2.out.trans (belowLe hb3 HB2.out.size))
  have HS3 := Lib.hid hs3
  clear hb3 hs3
  go_wp2_with fail
  refine ret_cell7 Tryz.results22 w.heap.size rfl rfl (HS3.out.set7 _ _ _ _ _ _ _) ?_
  exact ⟨rfl, below_set7 HB3.out (Nat.le_refl _) _ _ _ _ _ _ _⟩

set_option maxRecDepth 100000 in
set_option maxHeartbeats 2000000 in
theorem fault_bare (ea : Nat → Addr) (c : Nat) (w : World) (h : SeesAt w ea) (hc : c < 17) :
    Calls Tryz.prog 11 #[.iface 204 (.pointer (some (ea (101 + c))))] w fun e w' => e = .returned (fltV (101 + (c : Int)) false 0) ∧ Below w.heap.size w w' := by
  have ta : ∀ w : World, (Instr.typeAssert (.iface 204 (.pointer (some (ea (101 + c))))) 33 58 true).run Tryz.prog w = .ok (.tuple #[.pointer none, .bool false]) w := fun w => by kernel_rfl
  obtain ⟨w1, hw1⟩ : ∃ w1, w1 = w.alloc (.cells #[.int .i64 0, .bool false, .int .i64 0, .int .i64 0, .int .i64 0, .string ⟨#[]⟩, .slice none 0 0] 41) := ⟨_, rfl⟩
  have hb1 : Below w.heap.size w w1 := by rw [hw1]; exact (Below.refl _ _).alloc (Nat.le_refl _) _
  have hS : StF w1 w.heap.size (.int .i64 0) (.bool false) (.int .i64 0) (.int .i64 0) (.int .i64 0) (.string ⟨#[]⟩) (.slice none 0 0) := by rw [hw1]; exact StF.new w _ _ _ _ _ _ _
  have HB := Lib.hid hb1
  have HS := Lib.hid hS
  have HW := Lib.hid hw1
  have BC := Lib.hid (inner_c ea c w1 (h.below hb1) hc)
  unfold fltV
  unfold fltV at BC
  clear hb1 hS hw1 h
  go_enter Tryz.func11, Tryz.ntmps11
  go_wp2_with fail
  rw [← HW.out]
  refine BC.out.mono ?_
  rintro e w3 ⟨rfl, hb3⟩
  have hs3 := HS.out.below hb3
  obtain ⟨c0, c1, c2, c3, c4, c5, c6⟩ := hs3.cells
  have f0 := hs3.fr 0; have f1 := hs3.fr 1; have f2 := hs3.fr 2; have f3 := hs3.fr 3; have f4 := hs3.fr 4; have f5 := hs3.fr 5; have f6 := hs3.fr 6
  have HB3 := Lib.hid (HB.out.trans (belowLe hb3 HB.out.size))
  have HS3 := Lib.hid hs3
  clear hb3 hs3
  go_wp2_with fail
  refine ret_cell7 Tryz.results11 w.heap.size rfl rfl (HS3.out.set7 _ _ _ _ _ _ _) ?_
  exact ⟨rfl, below_set7 HB3.out (Nat.le_refl _) _ _ _ _ _ _ _⟩

/-- An error around a place, in memory. -/
def AtAt (w : World) (A : Nat) (pos : Int) (v : Value) : Prop := w.heap[A]? = some (.cells #[.int .i64 pos, v] 61 (0, 0))
theorem AtAt.below {w w' : World} {A : Nat} {pos : Int} {v : Value} (H : AtAt w A pos v) (hb : Below w.heap.size w w') : AtAt w' A pos v := by
  have hlt : A < w.heap.size := by
    rcases Nat.lt_or_ge A w.heap.size with hlt | hge
    · exact hlt
    · unfold AtAt at H; rw [Array.getElem?_eq_none hge] at H; cases H
  exact (hb.block A hlt).trans H
theorem AtAt.c0 {w : World} {A : Nat} {pos : Int} {v : Value} (H : AtAt w A pos v) : w.cell? ⟨A, 0, none⟩ = some (.int .i64 pos) := cell_of_row w A 0 _ _ _ H
theorem AtAt.c1 {w : World} {A : Nat} {pos : Int} {v : Value} (H : AtAt w A pos v) : w.cell? ⟨A, 1, none⟩ = some v := cell_of_row w A 1 _ _ _ H

end Go.Proofs.YtjibjgokloondaaGreatDoor
namespace Go.Proofs.YtjibjgokloondaaGreatDoor
open Go.RowKit Go.Lib
set_option linter.unusedVariables false

end Go.Proofs.YtjibjgokloondaaGreatDoor
namespace Go.Proofs.YtjibjgokloondaaGreatDoor
open Go.RowKit Go.Lib
set_option linter.unusedVariables false

end Go.Proofs.YtjibjgokloondaaGreatDoor
namespace Go.Proofs.YtjibjgokloondaaGreatDoor
open Go.RowKit Go.Lib
set_option linter.unusedVariables false

end Go.Proofs.YtjibjgokloondaaGreatDoor
namespace Go.Proofs.YtjibjgokloondaaGreatDoor
open Go.RowKit Go.Lib
set_option linter.unusedVariables false

/-- A row of values of the call's own. -/
structure CInv (base : Nat) (w0 wr : World) (V : Value) (acc : VL) (xs : List Value) : Prop where
  own : wr.ownsRow base 28 4 V acc.len xs
  cells : CellsOf wr (fun b => base ≤ b ∧ b < wr.heap.size ∧ V.ownBlock ≠ some b) acc xs
  below : Below base w0 wr
  size : base ≤ wr.heap.size
theorem CInv.nil (w : World) : CInv w.heap.size w w (.slice none 0 0) .nil [] := ⟨World.ownsRow_nil _ _ _ _, rfl, Below.refl _ _, Nat.le_refl _⟩
theorem CInv.move {base : Nat} {w0 wr w' : World} {V : Value} {acc : VL} {xs : List Value} (h : CInv base w0 wr V acc xs) (hb : Below wr.heap.size wr w') : CInv base w0 w' V acc xs :=
  ⟨own_below h.own hb, h.cells.keep (fun b hb' => hb.block b hb'.2.1) (fun b hb' => ⟨hb'.1, Nat.lt_of_lt_of_le hb'.2.1 hb.size, hb'.2.2⟩), h.below.trans (below_le' hb h.size), Nat.le_trans h.size hb.size⟩
theorem CInv.step {base : Nat} {w0 wr w3 w5 : World} {V V' : Value} {acc : VL} {xs : List Value} (h : CInv base w0 wr V acc xs) (hb : Below wr.heap.size wr w3)
    {k n : Int} {t : ByteArray} {sub : VL} {sa : Option Addr} {sc : Nat} (hsc : sub.len ≤ sc) (hrep : RpL w3 (fun b => wr.heap.size ≤ b ∧ b < w3.heap.size) sub sa) {o1 : Obj}
    (hown : w5.ownsRow base 28 4 V' (acc.len + 1) (xs ++ [.int .i64 k, .int .i64 n, .string t, .slice sa sub.len sc])) (hg : (w3.alloc o1).grownBy w5 V.ownBlock)
    (hob : V'.ownBlock = V.ownBlock ∨ V'.ownBlock = some (w3.alloc o1).heap.size) :
    CInv base w0 w5 V' (acc.app (val1 k n t sub)) (xs ++ [.int .i64 k, .int .i64 n, .string t, .slice sa sub.len sc]) := by
  have h3 := h.move hb
  have hVg : ∀ g, V.ownBlock = some g → base ≤ g ∧ g < wr.heap.size := fun g hg => ⟨own_ge h.own g hg, own_lt h.own g hg⟩
  have hsz : (w3.alloc o1).heap.size = w3.heap.size + 1 := by simp
  have hz5 : w3.heap.size + 1 ≤ w5.heap.size := by have := hg.size; omega
  have hz3 := hb.size
  have hz0 := h.size
  have blk : ∀ b, b < w3.heap.size → V.ownBlock ≠ some b → w5.heap[b]? = w3.heap[b]? := fun b hb hne => by
    have h1 := hg.block b (by omega) (fun e => hne e.symm)
    rw [h1, Below.heap_alloc _ _ _ hb]
  have hV'b : ∀ b, b < w3.heap.size → V.ownBlock ≠ some b → V'.ownBlock ≠ some b := fun b hb hne e => by
    rcases hob with e2 | e2
    · exact hne (e2.symm.trans e)
    · rw [e] at e2
      injection e2 with e2
      omega
  refine ⟨by rw [VL.len_app]; exact hown, ?_, ?_, by omega⟩
  · refine CellsOf.app _ _ _ _ ?_ ⟨sa, sc, [], rfl, hsc, ?_, rfl⟩
    · exact h3.cells.keep (fun b hb => blk b hb.2.1 hb.2.2) (fun b hb => ⟨hb.1, by have := hb.2.1; omega, hV'b b hb.2.1 hb.2.2⟩)
    · have hne : ∀ b, wr.heap.size ≤ b → V.ownBlock ≠ some b := fun b hb e => by have := (hVg b e).2; omega
      exact hrep.keep (fun b hb => blk b hb.2 (hne b hb.1)) (fun b hb => ⟨by have := hb.1; omega, by have := hb.2; omega, hV'b b hb.2 (hne b hb.1)⟩)
  · exact grown_below (h3.below.alloc h3.size o1) (by simp; omega) hg (fun k hk => (hVg k hk).1)
/-- What the row reads as. -/
theorem CInv.rep {base : Nat} {w0 wr : World} {V : Value} {acc : VL} {xs : List Value} (h : CInv base w0 wr V acc xs) : ∃ (sa : Option Addr) (sc : Nat), V = .slice sa acc.len sc ∧ acc.len ≤ sc ∧ RpL wr (fun b => base ≤ b ∧ b < wr.heap.size) acc sa :=
  own_rep h.own (h.cells.keep (fun _ _ => rfl) (fun b hb => ⟨hb.1, hb.2.1⟩)) (fun g hg => ⟨own_ge h.own g hg, own_lt h.own g hg⟩)

end Go.Proofs.YtjibjgokloondaaGreatDoor
namespace Go.Proofs.YtjibjgokloondaaGreatDoor
open Go.RowKit Go.Lib
set_option linter.unusedVariables false

end Go.Proofs.YtjibjgokloondaaGreatDoor
namespace Go.Proofs.YtjibjgokloondaaGreatDoor
open Go.RowKit Go.Lib
set_option linter.unusedVariables false

section
variable {w w' : World} {L : Nat} {left : Int}
end

/-- Out of the loop over the items. -/
theorem bne_of {a b : Int} (h : a ≠ b) : (a != b) = true ∧ (a == b) = false := by simp [h]

end Go.Proofs.YtjibjgokloondaaGreatDoor
namespace Go.Proofs.YtjibjgokloondaaGreatDoor
open Go.RowKit Go.Lib
set_option linter.unusedVariables false

end Go.Proofs.YtjibjgokloondaaGreatDoor
namespace Go.Proofs.YtjibjgokloondaaGreatDoor
open Go.RowKit Go.Lib
set_option linter.unusedVariables false

end Go.Proofs.YtjibjgokloondaaGreatDoor
namespace Go.Proofs.YtjibjgokloondaaGreatDoor
open Go.RowKit Go.Lib
set_option linter.unusedVariables false

end Go.Proofs.YtjibjgokloondaaGreatDoor
namespace Go.Proofs.YtjibjgokloondaaGreatDoor
open Go.RowKit Go.Lib
set_option linter.unusedVariables false

end Go.Proofs.YtjibjgokloondaaGreatDoor
