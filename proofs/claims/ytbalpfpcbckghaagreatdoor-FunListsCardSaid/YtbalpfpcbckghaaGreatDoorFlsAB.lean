/- Contracts of the functions that the statement reaches, and the plain mathematics beneath: several texts joined. -/
import Derived.Test.YtbalpfpcbckghaaGreatDoorChecked
import Derived.Sort.LotA
namespace Go.Proofs.YtbalpfpcbckghaaGreatDoor
/-- The region of a number in a code. -/
def regIn (n : Nat) : Code → Option Code
  | .region id ops d => if id = n then some (.region id ops d) else none
  | .seq a b => match regIn n a with
    | some c => some c
    | none => regIn n b
  | .cond _ t e => match regIn n t with
    | some c => some c
    | none => regIn n e
  | .block _ b => regIn n b
  | .loop b => regIn n b
  | .rangeFunc _ _ a b => match regIn n a with
    | some c => some c
    | none => regIn n b
  | .scope b => regIn n b
  | _ => none
def regOf (n : Nat) (c : Code) : Code := (regIn n c).getD .skip
end Go.Proofs.YtbalpfpcbckghaaGreatDoor
namespace Go.Proofs.YtbalpfpcbckghaaGreatDoor
open Go.Sort
set_option linter.unusedVariables false
set_option linter.unusedSimpArgs false
section
variable {α : Type} [Inhabited α] {lt : α → α → Bool}

/-- Two rows exchanged, n places. -/
def swapN (a b : Nat) : Nat → Array α → Array α
  | 0, d => d
  | n + 1, d => swp (swapN a b n d) (a + n) (b + n)
theorem swapN_size (a b : Nat) : ∀ (n : Nat) (d : Array α), (swapN a b n d).size = d.size
  | 0, _ => rfl
  | n + 1, d => by rw [swapN, swp_size, swapN_size a b n d]
theorem swapN_get (a b : Nat) : ∀ (n : Nat) (d : Array α), a + n ≤ b → b + n ≤ d.size → ∀ k, (swapN a b n d)[k]! = if a ≤ k ∧ k < a + n then d[k - a + b]! else if b ≤ k ∧ k < b + n then d[k - b + a]! else d[k]!
  | 0, d, _, _, k => by
    rw [swapN, if_neg (by omega), if_neg (by omega)]
  | n + 1, d, h1, h2, k => by
    have ih := swapN_get a b n d (by omega) (by omega)
    rw [swapN, swp_get _ (by rw [swapN_size]; omega) (by rw [swapN_size]; omega) k, ih, ih, ih]
    by_cases e1 : k = b + n
    · subst e1
      rw [if_pos rfl, if_neg (by omega), if_neg (by omega), if_neg (by omega), if_pos (by omega)]
      congr 1; omega
    · rw [if_neg e1]
      by_cases e2 : k = a + n
      · subst e2
        rw [if_pos rfl, if_neg (by omega), if_neg (by omega), if_pos (by omega)]
        congr 1; omega
      · rw [if_neg e2]
        by_cases e3 : a ≤ k ∧ k < a + n
        · rw [if_pos e3, if_pos (by omega)]
        · rw [if_neg e3, if_neg (show ¬ (a ≤ k ∧ k < a + (n + 1)) by omega)]
          by_cases e4 : b ≤ k ∧ k < b + n
          · rw [if_pos e4, if_pos (show b ≤ k ∧ k < b + (n + 1) by omega)]
          · rw [if_neg e4, if_neg (show ¬ (b ≤ k ∧ k < b + (n + 1)) by omega)]
theorem swapN_perm {lo hi : Nat} (a b : Nat) (hlo : lo ≤ a) : ∀ (n : Nat) (d : Array α), a + n ≤ b → b + n ≤ hi → hi ≤ d.size → PermIn lo hi d (swapN a b n d)
  | 0, d, _, _, _ => permIn_refl _ _ _
  | n + 1, d, h1, h2, h3 => permIn_trans _ _ _ _ _ (swapN_perm a b hlo n d (by omega) (by omega) h3) (swp_permIn _ _ _ _ _ (by omega) (by omega) (by omega) (by omega) (by rw [swapN_size]; exact h3))

/-- Two rows that lie side by side change their places: i ahead of m, j behind. -/
def rotN (m : Nat) : Nat → Nat → Nat → Array α → Array α
  | 0, _, _, d => d
  | f + 1, i, j, d => if i = j then swapN (m - i) m i d else if j < i then rotN m f (i - j) j (swapN (m - i) m j d) else rotN m f i (j - i) (swapN (m - i) (m + j - i) i d)
theorem rotN_size (m : Nat) : ∀ (f i j : Nat) (d : Array α), (rotN m f i j d).size = d.size
  | 0, _, _, _ => rfl
  | f + 1, i, j, d => by
    rw [rotN]
    split
    · exact swapN_size _ _ _ _
    · split
      · rw [rotN_size m f, swapN_size]
      · rw [rotN_size m f, swapN_size]
theorem rotN_get (m : Nat) : ∀ (f i j : Nat) (d : Array α), i + j ≤ f → 0 < i → 0 < j → i ≤ m → m + j ≤ d.size → ∀ k, (rotN m f i j d)[k]! = if m - i ≤ k ∧ k < m - i + j then d[k + i]! else if m - i + j ≤ k ∧ k < m + j then d[k - j]! else d[k]!
  | 0, i, j, d, h, h1, _, _, _, k => by omega
  | f + 1, i, j, d, h, h1, h2, h3, h4, k => by
    rw [rotN]
    by_cases e : i = j
    · subst e
      rw [if_pos rfl, swapN_get _ _ _ _ (by omega) (by omega)]
      repeat' split
      all_goals first | rfl | (exfalso; omega) | (congr 1; omega)
    · rw [if_neg e]
      by_cases c : j < i
      · have g := swapN_get (m - i) m j d (by omega) (by omega)
        rw [if_pos c, rotN_get m f (i - j) j _ (by omega) (by omega) h2 (by omega) (by rw [swapN_size]; exact h4) k]
        simp only [g]
        repeat' split
        all_goals first | rfl | (exfalso; omega) | (congr 1; omega)
      · have g := swapN_get (m - i) (m + j - i) i d (by omega) (by omega)
        rw [if_neg c, rotN_get m f i (j - i) _ (by omega) h1 (by omega) h3 (by rw [swapN_size]; omega) k]
        simp only [g]
        repeat' split
        all_goals first | rfl | (exfalso; omega) | (congr 1; omega)
theorem rotN_perm {lo hi : Nat} (m : Nat) : ∀ (f i j : Nat) (d : Array α), lo ≤ m - i → i ≤ m → m + j ≤ hi → hi ≤ d.size → PermIn lo hi d (rotN m f i j d)
  | 0, _, _, _, _, _, _, _ => permIn_refl _ _ _
  | f + 1, i, j, d, h1, h2, h3, h4 => by
    rw [rotN]
    by_cases e : i = j
    · rw [if_pos e]
      exact swapN_perm _ _ h1 _ _ (by omega) (by omega) h4
    · rw [if_neg e]
      by_cases c : j < i
      · rw [if_pos c]
        exact permIn_trans _ _ _ _ _ (swapN_perm _ _ h1 _ _ (by omega) (by omega) h4) (rotN_perm m f _ _ _ (by omega) (by omega) h3 (by rw [swapN_size]; exact h4))
      · rw [if_neg c]
        exact permIn_trans _ _ _ _ _ (swapN_perm _ _ h1 _ _ (by omega) (by omega) h4) (rotN_perm m f _ _ _ (by omega) (by omega) (by omega) (by rw [swapN_size]; exact h4))

/-- The first place, from s on, at which p does not hold; by halves. -/
def bsr (p : Nat → Bool) : Nat → Nat → Nat → Nat
  | 0, s, _ => s
  | f + 1, s, r => if s < r then (if p ((s + r) / 2) = true then bsr p f ((s + r) / 2 + 1) r else bsr p f s ((s + r) / 2)) else s
theorem bsr_spec (p : Nat → Bool) : ∀ (f s r : Nat), s ≤ r → r - s ≤ f → s ≤ bsr p f s r ∧ bsr p f s r ≤ r ∧ (bsr p f s r = s ∨ p (bsr p f s r - 1) = true) ∧ (bsr p f s r = r ∨ p (bsr p f s r) = false)
  | 0, s, r, h, hf => by
    have : s = r := by omega
    subst this
    exact ⟨Nat.le_refl _, Nat.le_refl _, .inl rfl, .inl rfl⟩
  | f + 1, s, r, h, hf => by
    rw [bsr]
    by_cases c : s < r
    · rw [if_pos c]
      by_cases hp : p ((s + r) / 2) = true
      · rw [if_pos hp]
        obtain ⟨h1, h2, h3, h4⟩ := bsr_spec p f ((s + r) / 2 + 1) r (by omega) (by omega)
        refine ⟨by omega, h2, ?_, h4⟩
        rcases h3 with h3 | h3
        · right
          rw [h3]
          simpa using hp
        · exact .inr h3
      · rw [if_neg hp]
        obtain ⟨h1, h2, h3, h4⟩ := bsr_spec p f s ((s + r) / 2) (by omega) (by omega)
        refine ⟨h1, by omega, h3, ?_⟩
        rcases h4 with h4 | h4
        · right
          rw [h4]
          simpa using hp
        · exact .inr h4
    · rw [if_neg c]
      exact ⟨Nat.le_refl _, h, .inl rfl, .inl (by omega)⟩

/-- One element, n places up, or down. -/
def shU (a : Nat) : Nat → Array α → Array α
  | 0, d => d
  | n + 1, d => swp (shU a n d) (a + n) (a + n + 1)
def shD (m : Nat) : Nat → Array α → Array α
  | 0, d => d
  | n + 1, d => swp (shD m n d) (m - n) (m - n - 1)
theorem shU_size (a : Nat) : ∀ (n : Nat) (d : Array α), (shU a n d).size = d.size
  | 0, _ => rfl
  | n + 1, d => by rw [shU, swp_size, shU_size a n d]
theorem shD_size (a : Nat) : ∀ (n : Nat) (d : Array α), (shD a n d).size = d.size
  | 0, _ => rfl
  | n + 1, d => by rw [shD, swp_size, shD_size a n d]
theorem shU_get (a : Nat) : ∀ (n : Nat) (d : Array α), a + n < d.size → ∀ k, (shU a n d)[k]! = if a ≤ k ∧ k < a + n then d[k + 1]! else if k = a + n then d[a]! else d[k]!
  | 0, d, _, k => by
    rw [shU, if_neg (by omega)]
    split
    · rename_i h; rw [h]; rfl
    · rfl
  | n + 1, d, h, k => by
    have ih := shU_get a n d (by omega)
    rw [shU, swp_get _ (by rw [shU_size]; omega) (by rw [shU_size]; omega) k, ih, ih, ih]
    by_cases e1 : k = a + n + 1
    · rw [if_pos e1, if_neg (by omega), if_pos rfl, if_neg (by omega), if_pos (by omega)]
    · rw [if_neg e1]
      by_cases e2 : k = a + n
      · rw [if_pos e2, if_neg (by omega), if_neg (by omega), if_pos (by omega), e2]
      · rw [if_neg e2]
        by_cases e3 : a ≤ k ∧ k < a + n
        · rw [if_pos e3, if_pos (by omega)]
        · rw [if_neg e3, if_neg e2, if_neg (by omega), if_neg (by omega)]
theorem shD_get (m : Nat) : ∀ (n : Nat) (d : Array α), n ≤ m → m < d.size → ∀ k, (shD m n d)[k]! = if k = m - n then d[m]! else if m - n < k ∧ k ≤ m then d[k - 1]! else d[k]!
  | 0, d, _, _, k => by
    rw [shD, if_neg (show ¬ (m - 0 < k ∧ k ≤ m) by omega)]
    split
    · rename_i h; rw [h]; rfl
    · rfl
  | n + 1, d, h, hm, k => by
    have ih := shD_get m n d (by omega) hm
    rw [shD, swp_get _ (by rw [shD_size]; omega) (by rw [shD_size]; omega) k, ih, ih, ih]
    repeat' split
    all_goals first | rfl | (exfalso; omega) | (congr 1; omega)
theorem shU_perm {lo hi : Nat} (a : Nat) (hlo : lo ≤ a) : ∀ (n : Nat) (d : Array α), a + n < hi → hi ≤ d.size → PermIn lo hi d (shU a n d)
  | 0, _, _, _ => permIn_refl _ _ _
  | n + 1, d, h1, h2 => permIn_trans _ _ _ _ _ (shU_perm a hlo n d (by omega) h2) (swp_permIn _ _ _ _ _ (by omega) (by omega) (by omega) (by omega) (by rw [shU_size]; exact h2))
theorem shD_perm {lo hi : Nat} (m : Nat) (hm : m < hi) : ∀ (n : Nat) (d : Array α), lo + n ≤ m → hi ≤ d.size → PermIn lo hi d (shD m n d)
  | 0, _, _, _ => permIn_refl _ _ _
  | n + 1, d, h1, h2 => permIn_trans _ _ _ _ _ (shD_perm m hm n d (by omega) h2) (swp_permIn _ _ _ _ _ (by omega) (by omega) (by omega) (by omega) (by rw [shD_size]; exact h2))

/-- Two sorted rows, side by side, merged where they lie. -/
def symM (lt : α → α → Bool) : Nat → Nat → Nat → Nat → Array α → Array α
  | 0, _, _, _, d => d
  | f + 1, a, m, b, d =>
    if m - a = 1 then shU a (bsr (fun h => lt d[h]! d[a]!) (b - m) m b - 1 - a) d
    else if b - m = 1 then shD m (m - bsr (fun h => !lt d[m]! d[h]!) (m - a) a m) d
    else
      let mid := (a + b) / 2
      let n := mid + m
      let st := if mid < m then bsr (fun c => !lt d[n - 1 - c]! d[c]!) (mid - (n - b)) (n - b) mid else bsr (fun c => !lt d[n - 1 - c]! d[c]!) (m - a) a m
      let d1 := if st < m ∧ m < n - st then rotN m (n - st - st) (m - st) (n - st - m) d else d
      let d2 := if a < st ∧ st < mid then symM lt f a st mid d1 else d1
      if mid < n - st ∧ n - st < b then symM lt f mid (n - st) b d2 else d2
theorem symM_size (lt : α → α → Bool) : ∀ (f a m b : Nat) (d : Array α), (symM lt f a m b d).size = d.size
  | 0, _, _, _, _ => rfl
  | f + 1, a, m, b, d => by
    rw [symM]
    split
    · exact shU_size _ _ _
    · split
      · exact shD_size _ _ _
      · dsimp only
        repeat' split
        all_goals simp only [symM_size lt f, rotN_size]
end
end Go.Proofs.YtbalpfpcbckghaaGreatDoor
namespace Go.Proofs.YtbalpfpcbckghaaGreatDoor
open Go.Sort
set_option linter.unusedVariables false
set_option linter.unusedSimpArgs false
section
variable {α : Type} [Inhabited α] {lt : α → α → Bool}

omit [Inhabited α] in
theorem sle_trans (hS : SWO lt) {x y z : α} (h1 : lt y x = false) (h2 : lt z y = false) : lt z x = false := hS.ntrans _ _ _ h2 h1
theorem sle_at (hS : SWO lt) {a b i j : Nat} {d : Array α} (h : SortedIn lt a b d) (h1 : a ≤ i) (h2 : i ≤ j) (h3 : j < b) : lt d[j]! d[i]! = false := by
  by_cases e : i = j
  · subst e; exact hS.irrefl _
  · exact h i j h1 (by omega) h3
theorem sorted_congr {a b : Nat} {d d' : Array α} (h : SortedIn lt a b d) (he : ∀ k, a ≤ k → k < b → d'[k]! = d[k]!) : SortedIn lt a b d' := by
  intro i j h1 h2 h3
  rw [he i h1 (by omega), he j (by omega) h3]
  exact h i j h1 h2 h3
theorem symM_one (hS : SWO lt) {a m b : Nat} {d : Array α} (hm : m = a + 1) (hb : m < b) (hsz : b ≤ d.size) (h2 : SortedIn lt m b d) :
    PermIn a b d (shU a (bsr (fun h => lt d[h]! d[a]!) (b - m) m b - 1 - a) d) ∧ SortedIn lt a b (shU a (bsr (fun h => lt d[h]! d[a]!) (b - m) m b - 1 - a) d) := by
  obtain ⟨b1, b2, b3, b4⟩ := bsr_spec (fun h => lt d[h]! d[a]!) (b - m) m b (by omega) (by omega)
  generalize bsr (fun h => lt d[h]! d[a]!) (b - m) m b = i at b1 b2 b3 b4 ⊢
  refine ⟨shU_perm a (Nat.le_refl _) _ _ (by omega) hsz, ?_⟩
  have g := shU_get a (i - 1 - a) d (by omega)
  have e : a + (i - 1 - a) = i - 1 := by omega
  rw [e] at g
  intro p q hp hpq hq
  rw [g, g]
  by_cases q1 : q < i - 1
  · rw [if_pos (show a ≤ q ∧ q < i - 1 by omega), if_pos (show a ≤ p ∧ p < i - 1 by omega)]
    exact h2 _ _ (by omega) (by omega) (by omega)
  · rw [if_neg (show ¬ (a ≤ q ∧ q < i - 1) by omega)]
    by_cases q2 : q = i - 1
    · rw [if_pos q2, if_pos (show a ≤ p ∧ p < i - 1 by omega)]
      have h3 : lt d[i - 1]! d[a]! = true := by
        rcases b3 with b3 | b3
        · omega
        · exact b3
      exact sle_trans hS (sle_at hS h2 (show m ≤ p + 1 by omega) (show p + 1 ≤ i - 1 by omega) (by omega)) (hS.asymmA h3)
    · rw [if_neg q2]
      by_cases p1 : p < i - 1
      · rw [if_pos (show a ≤ p ∧ p < i - 1 by omega)]
        exact h2 _ _ (by omega) (by omega) (by omega)
      · rw [if_neg (show ¬ (a ≤ p ∧ p < i - 1) by omega)]
        by_cases p2 : p = i - 1
        · rw [if_pos p2]
          have h3 : lt d[i]! d[a]! = false := by
            rcases b4 with b4 | b4
            · omega
            · exact b4
          exact sle_trans hS h3 (sle_at hS h2 (show m ≤ i by omega) (by omega) hq)
        · rw [if_neg p2]
          exact h2 _ _ (by omega) (by omega) (by omega)
theorem symM_last (hS : SWO lt) {a m b : Nat} {d : Array α} (ha : a < m) (hm : b = m + 1) (hsz : b ≤ d.size) (h1 : SortedIn lt a m d) :
    PermIn a b d (shD m (m - bsr (fun h => !lt d[m]! d[h]!) (m - a) a m) d) ∧ SortedIn lt a b (shD m (m - bsr (fun h => !lt d[m]! d[h]!) (m - a) a m) d) := by
  obtain ⟨b1, b2, b3, b4⟩ := bsr_spec (fun h => !lt d[m]! d[h]!) (m - a) a m (by omega) (by omega)
  generalize bsr (fun h => !lt d[m]! d[h]!) (m - a) a m = i at b1 b2 b3 b4 ⊢
  refine ⟨shD_perm m (by omega) _ _ (by omega) hsz, ?_⟩
  have g := shD_get m (m - i) d (by omega) (by omega)
  have e : m - (m - i) = i := by omega
  rw [e] at g
  intro p q hp hpq hq
  rw [g, g]
  by_cases q1 : q < i
  · rw [if_neg (show ¬ q = i by omega), if_neg (show ¬ (i < q ∧ q ≤ m) by omega), if_neg (show ¬ p = i by omega), if_neg (show ¬ (i < p ∧ p ≤ m) by omega)]
    exact h1 _ _ hp hpq (by omega)
  · by_cases q2 : q = i
    · rw [if_pos q2, if_neg (show ¬ p = i by omega), if_neg (show ¬ (i < p ∧ p ≤ m) by omega)]
      have h3 : lt d[m]! d[i - 1]! = false := by
        rcases b3 with b3 | b3
        · omega
        · simpa using b3
      exact sle_trans hS (sle_at hS h1 hp (show p ≤ i - 1 by omega) (by omega)) h3
    · rw [if_neg q2, if_pos (show i < q ∧ q ≤ m by omega)]
      by_cases p1 : p = i
      · rw [if_pos p1]
        have h3 : lt d[m]! d[i]! = true := by
          rcases b4 with b4 | b4
          · omega
          · simpa using b4
        exact sle_trans hS (hS.asymmA h3) (sle_at hS h1 b1 (show i ≤ q - 1 by omega) (by omega))
      · rw [if_neg p1]
        by_cases p2 : i < p ∧ p ≤ m
        · rw [if_pos p2]
          exact h1 _ _ (by omega) (by omega) (by omega)
        · rw [if_neg p2]
          exact h1 _ _ (by omega) (by omega) (by omega)
/-- Where the two rows are parted. -/
theorem symM_cut {a m b st : Nat} {d : Array α} (ha : a + 1 < m) (hb : m + 1 < b)
    (hst : st = (if (a + b) / 2 < m then bsr (fun c => !lt d[(a + b) / 2 + m - 1 - c]! d[c]!) ((a + b) / 2 - ((a + b) / 2 + m - b)) ((a + b) / 2 + m - b) ((a + b) / 2) else bsr (fun c => !lt d[(a + b) / 2 + m - 1 - c]! d[c]!) (m - a) a m)) :
    a ≤ st ∧ st ≤ m ∧ st ≤ (a + b) / 2 ∧ m ≤ (a + b) / 2 + m - st ∧ (a + b) / 2 ≤ (a + b) / 2 + m - st ∧ (a + b) / 2 + m - st ≤ b ∧
      (st = a ∨ (a + b) / 2 + m - st = b ∨ lt d[(a + b) / 2 + m - st]! d[st - 1]! = false) ∧ ((a + b) / 2 + m - st = m ∨ st = m ∨ lt d[(a + b) / 2 + m - st - 1]! d[st]! = true) := by
  by_cases c : (a + b) / 2 < m
  · rw [if_pos c] at hst
    obtain ⟨b1, b2, b3, b4⟩ := bsr_spec (fun c => !lt d[(a + b) / 2 + m - 1 - c]! d[c]!) ((a + b) / 2 - ((a + b) / 2 + m - b)) ((a + b) / 2 + m - b) ((a + b) / 2) (by omega) (by omega)
    rw [← hst] at b1 b2 b3 b4
    refine ⟨by omega, by omega, b2, by omega, by omega, by omega, ?_, ?_⟩
    · rcases b3 with b3 | b3
      · exact .inr (.inl (by omega))
      · by_cases e : st = a
        · exact .inl e
        · refine .inr (.inr ?_)
          simp only [Bool.not_eq_true'] at b3
          rw [show (a + b) / 2 + m - st = (a + b) / 2 + m - 1 - (st - 1) by omega]
          exact b3
    · rcases b4 with b4 | b4
      · exact .inl (by omega)
      · refine .inr (.inr ?_)
        simp only [Bool.not_eq_false'] at b4
        rw [show (a + b) / 2 + m - st - 1 = (a + b) / 2 + m - 1 - st by omega]
        exact b4
  · rw [if_neg c] at hst
    obtain ⟨b1, b2, b3, b4⟩ := bsr_spec (fun c => !lt d[(a + b) / 2 + m - 1 - c]! d[c]!) (m - a) a m (by omega) (by omega)
    rw [← hst] at b1 b2 b3 b4
    refine ⟨b1, b2, by omega, by omega, by omega, by omega, ?_, ?_⟩
    · rcases b3 with b3 | b3
      · exact .inl b3
      · by_cases e : st = a
        · exact .inl e
        · refine .inr (.inr ?_)
          simp only [Bool.not_eq_true'] at b3
          rw [show (a + b) / 2 + m - st = (a + b) / 2 + m - 1 - (st - 1) by omega]
          exact b3
    · rcases b4 with b4 | b4
      · exact .inr (.inl b4)
      · refine .inr (.inr ?_)
        simp only [Bool.not_eq_false'] at b4
        rw [show (a + b) / 2 + m - st - 1 = (a + b) / 2 + m - 1 - st by omega]
        exact b4
theorem symM_spec (hS : SWO lt) : ∀ (f a m b : Nat) (d : Array α), b - a ≤ f → a < m → m < b → b ≤ d.size → SortedIn lt a m d → SortedIn lt m b d → PermIn a b d (symM lt f a m b d) ∧ SortedIn lt a b (symM lt f a m b d)
  | 0, a, m, b, d, hf, ha, hb, _, _, _ => by omega
  | f + 1, a, m, b, d, hf, ha, hb, hsz, h1, h2 => by
    rw [symM]
    by_cases c1 : m - a = 1
    · rw [if_pos c1]
      exact symM_one hS (by omega) hb hsz h2
    rw [if_neg c1]
    by_cases c2 : b - m = 1
    · rw [if_pos c2]
      exact symM_last hS ha (by omega) hsz h1
    rw [if_neg c2]
    dsimp only
    obtain ⟨st, hst⟩ : ∃ st, st = (if (a + b) / 2 < m then bsr (fun c => !lt d[(a + b) / 2 + m - 1 - c]! d[c]!) ((a + b) / 2 - ((a + b) / 2 + m - b)) ((a + b) / 2 + m - b) ((a + b) / 2) else bsr (fun c => !lt d[(a + b) / 2 + m - 1 - c]! d[c]!) (m - a) a m) := ⟨_, rfl⟩
    obtain ⟨k1, k2, k3, k4, k5, k6, k7, k8⟩ := symM_cut (by omega) (by omega) hst
    rw [← hst]
    obtain ⟨mid, hmid⟩ : ∃ mid, mid = (a + b) / 2 := ⟨_, rfl⟩
    have hm1 : a < mid := by omega
    have hm2 : mid < b := by omega
    rw [← hmid] at k3 k4 k5 k6 k7 k8 ⊢
    obtain ⟨en, hen⟩ : ∃ en, en = mid + m - st := ⟨_, rfl⟩
    rw [← hen] at k4 k5 k6 k7 k8 ⊢
    clear hst hmid
    -- the rows change their places
    obtain ⟨d1, hd1⟩ : ∃ d1, d1 = (if st < m ∧ m < en then rotN m (en - st) (m - st) (en - m) d else d) := ⟨_, rfl⟩
    have hz1 : d1.size = d.size := by
      rw [hd1]
      split
      · exact rotN_size _ _ _ _ _
      · rfl
    have hp1 : PermIn a b d d1 := by
      rw [hd1]
      split
      · exact rotN_perm _ _ _ _ _ (by omega) (by omega) (by omega) hsz
      · exact permIn_refl _ _ _
    have g1 : ∀ k, d1[k]! = if st ≤ k ∧ k < mid then d[k + (m - st)]! else if mid ≤ k ∧ k < en then d[k - (en - m)]! else d[k]! := by
      intro k
      rw [hd1]
      by_cases c : st < m ∧ m < en
      · rw [if_pos c, rotN_get m (en - st) (m - st) (en - m) d (by omega) (by omega) (by omega) (by omega) (by omega) k]
        repeat' split
        all_goals first | rfl | (exfalso; omega)
      · rw [if_neg c]
        repeat' split
        all_goals first | rfl | (congr 1; omega)
    rw [← hd1]
    clear hd1
    have s1 : SortedIn lt a st d1 := sorted_congr (d := d) (fun i j x y z => h1 i j x y (by omega)) (fun k x y => by rw [g1, if_neg (show ¬ (st ≤ k ∧ k < mid) by omega), if_neg (show ¬ (mid ≤ k ∧ k < en) by omega)])
    have s2 : SortedIn lt st mid d1 := fun i j x y z => by
      rw [g1, g1, if_pos (show st ≤ j ∧ j < mid by omega), if_pos (show st ≤ i ∧ i < mid by omega)]
      exact h2 _ _ (by omega) (by omega) (by omega)
    have s3 : SortedIn lt mid en d1 := fun i j x y z => by
      rw [g1, g1, if_neg (show ¬ (st ≤ j ∧ j < mid) by omega), if_neg (show ¬ (st ≤ i ∧ i < mid) by omega), if_pos (show mid ≤ j ∧ j < en by omega), if_pos (show mid ≤ i ∧ i < en by omega)]
      exact h1 _ _ (by omega) (by omega) (by omega)
    have s4 : SortedIn lt en b d1 := sorted_congr (d := d) (fun i j x y z => h2 i j (by omega) y z) (fun k x y => by rw [g1, if_neg (show ¬ (st ≤ k ∧ k < mid) by omega), if_neg (show ¬ (mid ≤ k ∧ k < en) by omega)])
    have cr : ∀ i j, a ≤ i → i < mid → mid ≤ j → j < b → lt d1[j]! d1[i]! = false := by
      intro i j x1 x2 x3 x4
      rw [g1, g1]
      by_cases ci : st ≤ i
      · rw [if_pos (show st ≤ i ∧ i < mid by omega), if_neg (show ¬ (st ≤ j ∧ j < mid) by omega)]
        by_cases cj : j < en
        · rw [if_pos (show mid ≤ j ∧ j < en by omega)]
          have h3 : lt d[en - 1]! d[st]! = true := by
            rcases k8 with k8 | k8 | k8
            · omega
            · omega
            · exact k8
          exact sle_trans hS (sle_at hS h2 (show m ≤ i + (m - st) by omega) (show i + (m - st) ≤ en - 1 by omega) (by omega)) (sle_trans hS (hS.asymmA h3) (sle_at hS h1 k1 (show st ≤ j - (en - m) by omega) (by omega)))
        · rw [if_neg (show ¬ (mid ≤ j ∧ j < en) by omega)]
          exact sle_at hS h2 (by omega) (show i + (m - st) ≤ j by omega) x4
      · rw [if_neg (show ¬ (st ≤ i ∧ i < mid) by omega), if_neg (show ¬ (mid ≤ i ∧ i < en) by omega), if_neg (show ¬ (st ≤ j ∧ j < mid) by omega)]
        by_cases cj : j < en
        · rw [if_pos (show mid ≤ j ∧ j < en by omega)]
          exact sle_at hS h1 x1 (show i ≤ j - (en - m) by omega) (by omega)
        · rw [if_neg (show ¬ (mid ≤ j ∧ j < en) by omega)]
          have h3 : lt d[en]! d[st - 1]! = false := by
            rcases k7 with k7 | k7 | k7
            · omega
            · omega
            · exact k7
          exact sle_trans hS (sle_at hS h1 x1 (show i ≤ st - 1 by omega) (by omega)) (sle_trans hS h3 (sle_at hS h2 k4 (show en ≤ j by omega) x4))
    clear g1 h1 h2 k7 k8
    -- the left half
    obtain ⟨d2, hd2⟩ : ∃ d2, d2 = (if a < st ∧ st < mid then symM lt f a st mid d1 else d1) := ⟨_, rfl⟩
    have hl : PermIn a mid d1 d2 ∧ SortedIn lt a mid d2 := by
      rw [hd2]
      by_cases c : a < st ∧ st < mid
      · rw [if_pos c]
        exact symM_spec hS f a st mid d1 (by omega) c.1 c.2 (by omega) s1 s2
      · rw [if_neg c]
        refine ⟨permIn_refl _ _ _, ?_⟩
        by_cases e : st = a
        · rw [← e]; exact s2
        · have : st = mid := by omega
          rw [← this]; exact s1
    rw [← hd2]
    clear hd2 s1 s2
    obtain ⟨l1, l2⟩ := hl
    have hz2 : d2.size = d1.size := l1.1
    have hsame : ∀ k, mid ≤ k → d2[k]! = d1[k]! := fun k hk => l1.2.1 k (.inr hk)
    have cr2 : ∀ i j, a ≤ i → i < mid → mid ≤ j → j < b → lt d2[j]! d2[i]! = false := by
      intro i j x1 x2 x3 x4
      rw [hsame j x3]
      exact permIn_all d1 d2 a mid (fun x => lt d1[j]! x = false) (by omega) l1 (fun k y1 y2 => cr k j y1 y2 x3 x4) i x1 x2
    -- the right half
    obtain ⟨d3, hd3⟩ : ∃ d3, d3 = (if mid < en ∧ en < b then symM lt f mid en b d2 else d2) := ⟨_, rfl⟩
    have hr : PermIn mid b d2 d3 ∧ SortedIn lt mid b d3 := by
      have t3 : SortedIn lt mid en d2 := sorted_congr s3 fun k x y => hsame k x
      have t4 : SortedIn lt en b d2 := sorted_congr s4 fun k x y => hsame k (by omega)
      rw [hd3]
      by_cases c : mid < en ∧ en < b
      · rw [if_pos c]
        exact symM_spec hS f mid en b d2 (by omega) c.1 c.2 (by omega) t3 t4
      · rw [if_neg c]
        refine ⟨permIn_refl _ _ _, ?_⟩
        by_cases e : en = b
        · rw [← e]; exact t3
        · have : en = mid := by omega
          rw [← this]; exact t4
    rw [← hd3]
    obtain ⟨r1, r2⟩ := hr
    refine ⟨permIn_trans _ _ _ _ _ hp1 (permIn_trans _ _ _ _ _ (permIn_mono _ _ _ _ _ _ (Nat.le_refl _) (by omega) (by omega) l1) (permIn_mono _ _ _ _ _ _ (by omega) (Nat.le_refl _) (by omega) r1)), ?_⟩
    intro p q hp hpq hq
    have hsame3 : ∀ k, k < mid → d3[k]! = d2[k]! := fun k hk => r1.2.1 k (.inl hk)
    by_cases cq : q < mid
    · rw [hsame3 q cq, hsame3 p (by omega)]
      exact l2 p q hp hpq cq
    · by_cases cp : p < mid
      · rw [hsame3 p cp]
        exact permIn_all d2 d3 mid b (fun x => lt x d2[p]! = false) (by omega) r1 (fun k y1 y2 => cr2 p k hp cp y1 y2) q (by omega) hq
      · exact r2 p q (by omega) hpq hq

/-- A stable sort of fewer than 40, in blocks of twenty. -/
def stabS (lt : α → α → Bool) (d : Array α) (n : Nat) : Array α :=
  if n < 20 then insertionSort lt d 0 n
  else if n = 20 then insertionSort lt (insertionSort lt d 0 20) 20 20
  else symM lt n 0 20 n (insertionSort lt (insertionSort lt d 0 20) 20 n)
theorem stabS_spec (hS : SWO lt) (d : Array α) (n : Nat) (hn : n ≤ d.size) : PermIn 0 n d (stabS lt d n) ∧ SortedIn lt 0 n (stabS lt d n) := by
  unfold stabS
  by_cases c : n < 20
  · rw [if_pos c]
    exact insertionSort_holds hS d 0 n (Nat.zero_le _) hn
  rw [if_neg c]
  obtain ⟨p1, s1⟩ := insertionSort_holds hS d 0 20 (by omega) (by omega)
  have z1 := p1.1
  by_cases e : n = 20
  · subst e
    rw [if_pos rfl]
    obtain ⟨p2, _⟩ := insertionSort_holds hS (insertionSort lt d 0 20) 20 20 (Nat.le_refl _) (by omega)
    refine ⟨permIn_trans _ _ _ _ _ p1 (permIn_mono _ _ _ _ _ _ (Nat.zero_le _) (Nat.le_refl _) (by omega) p2), ?_⟩
    exact sorted_congr s1 fun k _ hk => p2.2.1 k (.inl hk)
  · rw [if_neg e]
    obtain ⟨p2, s2⟩ := insertionSort_holds hS (insertionSort lt d 0 20) 20 n (by omega) (by omega)
    have z2 := p2.1
    obtain ⟨p3, s3⟩ := symM_spec hS n 0 20 n (insertionSort lt (insertionSort lt d 0 20) 20 n) (by omega) (by omega) (by omega) (by omega) (sorted_congr s1 fun k _ hk => p2.2.1 k (.inl hk)) s2
    exact ⟨permIn_trans _ _ _ _ _ (permIn_trans _ _ _ _ _ (permIn_mono _ _ _ _ _ _ (Nat.le_refl _) (by omega) (by omega) p1) (permIn_mono _ _ _ _ _ _ (Nat.zero_le _) (Nat.le_refl _) (by omega) p2)) p3, s3⟩
end
end Go.Proofs.YtbalpfpcbckghaaGreatDoor
