/- Contracts of the functions that the statement reaches, and the plain mathematics beneath: several texts joined. -/
import Derived.Test.YtbalpfpcbckghaaGreatDoorFlsAL
import Derived.Test.YtbalpfpcbckghaaGreatDoorFlsAE
namespace Go.Proofs.YtbalpfpcbckghaaGreatDoor
open Go.RowKit Go.Lib Go.Sort
set_option linter.unusedVariables false

theorem vD_max : ∀ (l : VL) (a : Int), 0 ≤ a → vD l a = max a (vD l 0)
  | .nil, a, h => by rw [vD, vD]; omega
  | .cons k n s sub rest, a, h => by
    have h0 := vD_ge sub 0
    rw [vD, vD, vD_max rest (max a (vD sub 0 + 1)) (by omega), vD_max rest (max 0 (vD sub 0 + 1)) (by omega)]
    omega
/-- How deep right values are. -/
theorem vD_deep : ∀ l : VL, OwnL l → vD l 0 = deepF l 0
  | .nil, _ => by rw [vD, deepF]
  | .cons k n s sub rest, h => by
    have h1 := vD_deep sub h.2.1
    have h2 := vD_deep rest h.2.2
    have h0 := vD_ge sub 0
    have hd : dp k sub = vD sub 0 + 1 := by
      unfold dp
      by_cases k4 : k = 4
      · rw [if_pos k4, h1]
      · have := own_leaf h.1 k4
        subst this
        rw [if_neg k4, vD]
    rw [vD, deepF_cons, vD_max rest _ (by omega), deepF_max rest _ (by omega), hd, h2]
theorem own_size {k n : Int} {s : ByteArray} {len : Nat} (h : ownE k n s len = 0) : (s.size : Int) = mOf k s := by
  unfold mOf
  by_cases k2 : k = 2
  · rw [if_pos k2]
  · rw [if_neg k2]
    have e : s.data.toList = [] := by
      rcases own_ok h with ⟨_, e, _⟩ | ⟨_, _, _, e, _⟩ | ⟨e, _⟩ | ⟨_, _, _, e, _⟩ | ⟨_, _, e⟩
      · exact e
      · exact e
      · exact absurd e k2
      · exact e
      · exact e
    have : s.size = 0 := by
      show s.data.size = 0
      rw [← Array.length_toList, e]; rfl
    omega
/-- How great right values are. -/
theorem vS_cost : ∀ (l : VL) (a : Int), OwnL l → vS l a = a + cost l
  | .nil, a, _ => by rw [vS, cost]; omega
  | .cons k n s sub rest, a, h => by
    have h1 := vS_cost sub (1 + (s.size : Int)) h.2.1
    have hm := own_size h.1
    rw [vS, vS_cost rest _ h.2.2, h1, cost]; omega

def sumI : List VL → Int
  | [] => 0
  | x :: r => cost x + sumI r
def maxI : List VL → Int
  | [] => 0
  | x :: r => max (deepF x 0) (maxI r)
theorem cost_app' : ∀ a b : VL, cost (a.app b) = cost a + cost b
  | .nil, b => by rw [VL.app, cost]; omega
  | .cons k n s sub r, b => by rw [VL.app, cost, cost, cost_app' r b]; omega
theorem cost_itms : ∀ l : VL, cost l = sumI (itms l)
  | .nil => by rw [itms, sumI, cost]
  | .cons k n s sub r => by rw [itms, sumI, ← cost_itms r, cost, cost, cost]; omega
theorem deep_itms : ∀ l : VL, deepF l 0 = maxI (itms l)
  | .nil => by rw [itms, maxI, deepF]
  | .cons k n s sub r => by
    rw [itms, maxI, ← deep_itms r, deepF_cons, deepF_cons, deepF, deepF_max r _ (by omega)]
theorem own_itms : ∀ l : VL, OwnL l ↔ ∀ x ∈ itms l, OwnL x
  | .nil => ⟨fun _ x hx => by simp [itms] at hx, fun _ => trivial⟩
  | .cons k n s sub r => by
    constructor
    · intro h x hx
      rcases List.mem_cons.1 hx with rfl | hx
      · exact ⟨h.1, h.2.1, trivial⟩
      · exact (own_itms r).1 h.2.2 x hx
    · intro h
      have h1 := h _ (List.mem_cons_self ..)
      exact ⟨h1.1, h1.2.1, (own_itms r).2 fun x hx => h x (List.mem_cons_of_mem _ hx)⟩
theorem maxI_ge : ∀ xs : List VL, 0 ≤ maxI xs
  | [] => Int.le_refl _
  | x :: r => by have := maxI_ge r; rw [maxI]; omega
theorem maxI_mem : ∀ (xs : List VL) (x : VL), x ∈ xs → deepF x 0 ≤ maxI xs
  | y :: r, x, h => by
    rw [maxI]
    rcases List.mem_cons.1 h with rfl | h
    · omega
    · have := maxI_mem r x h; omega
theorem maxI_le : ∀ (xs : List VL) (c : Int), 0 ≤ c → (∀ x ∈ xs, deepF x 0 ≤ c) → maxI xs ≤ c
  | [], c, h, _ => h
  | y :: r, c, h, hx => by
    have := maxI_le r c h fun x h => hx x (List.mem_cons_of_mem _ h)
    have := hx y (List.mem_cons_self ..)
    rw [maxI]; omega
theorem sumI_perm : ∀ {xs ys : List VL}, xs.Perm ys → sumI xs = sumI ys := by
  intro xs ys h
  induction h with
  | nil => rfl
  | cons x _ ih => rw [sumI, sumI, ih]
  | swap x y l => rw [sumI, sumI, sumI, sumI]; omega
  | trans _ _ i1 i2 => rw [i1, i2]
theorem sumI_sub : ∀ {xs ys : List VL}, xs.Sublist ys → sumI xs ≤ sumI ys := by
  intro xs ys h
  induction h with
  | slnil => exact Int.le_refl _
  | cons x _ ih => have := cost_ge x; rw [sumI]; omega
  | cons_cons x _ ih => rw [sumI, sumI]; omega

/-- A list that may be: its items are right, and together they fit. -/
structure FitL (l : VL) : Prop where
  own : OwnL l
  sum : 1 + cost l ≤ 4096
  deep : deepF l 0 + 1 ≤ 40
theorem FitL.of {l : VL} (h : rightsL l = true) (hf : fitsV 4 ⟨#[]⟩ l = 0) : FitL l := by
  have ho := ownL_rights l h
  unfold fitsV at hf
  by_cases h1 : 40 < dp 4 l
  · rw [if_pos h1] at hf; cases hf
  rw [if_neg h1] at hf
  by_cases h2 : 4096 < sz1 4 ⟨#[]⟩ l
  · rw [if_pos h2] at hf; cases hf
  have hd : dp 4 l = deepF l 0 + 1 := by unfold dp; rw [if_pos rfl]
  have hs : sz1 4 ⟨#[]⟩ l = 1 + cost l := by unfold sz1; rw [if_neg (by decide), if_pos rfl, szF_cost l 1 ho]
  exact ⟨ho, by omega, by omega⟩
theorem FitL.made {l : VL} (h : FitL l) : cost l ≤ 100000 ∧ 1 + vD l 0 ≤ 40 ∧ vS l 1 ≤ 4096 := by
  have h1 := h.sum
  have h2 := h.deep
  exact ⟨by omega, by rw [vD_deep l h.own]; omega, by rw [vS_cost l 1 h.own]; exact h1⟩
theorem FitL.right {l : VL} (h : FitL l) : (walk1 4 0 ⟨#[]⟩ l 1 4096).1 = 0 := by
  have hm : mOf 4 ⟨#[]⟩ = 0 := rfl
  have hown : ownE 4 0 ⟨#[]⟩ l.len = 0 := by unfold ownE; simp [prB]
  have h1 := h.sum
  have h2 := h.deep
  unfold walk1
  rw [if_neg (by decide), if_neg (by rw [hm]; decide), if_pos hown, hm]
  exact (walkL_conv l 2 _ h.own (by omega) (by omega)).1
/-- Of a list that may be, one whose items are some of its own. -/
theorem FitL.some {l m : VL} (h : FitL l) (hs : ∃ ys, (itms m).Perm ys ∧ ys.Sublist (itms l)) : FitL m := by
  obtain ⟨ys, hp, hsub⟩ := hs
  have hmem : ∀ x ∈ itms m, x ∈ itms l := fun x hx => hsub.subset (hp.subset hx)
  refine ⟨(own_itms m).2 fun x hx => (own_itms l).1 h.own x (hmem x hx), ?_, ?_⟩
  · have h1 := sumI_sub hsub
    have h2 := h.sum
    rw [cost_itms] at h2
    rw [cost_itms, sumI_perm hp]
    omega
  · have h2 := h.deep
    rw [deep_itms] at h2
    rw [deep_itms]
    have := maxI_le (itms m) (maxI (itms l)) (maxI_ge _) fun x hx => maxI_mem _ x (hmem x hx)
    omega
theorem FitL.perm {l m : VL} (h : FitL l) (hp : (itms m).Perm (itms l)) : FitL m := h.some ⟨_, hp, List.Sublist.refl _⟩
theorem kfew_own : ∀ l : VL, OwnL l → kfew l
  | .nil, _ => trivial
  | .cons k n s sub r, h => ⟨by
      rcases own_ok h.1 with ⟨e, _⟩ | ⟨e, _⟩ | ⟨e, _⟩ | ⟨e, _⟩ | ⟨e, _⟩ <;> omega, kfew_own sub h.2.1, kfew_own r h.2.2⟩
theorem len_costI : ∀ l : VL, (l.len : Int) ≤ cost l
  | .nil => Int.le_refl _
  | .cons k n s sub r => by
    have h1 := cost_ge sub
    have h2 := len_costI r
    have h3 := mOf_ge k s
    rw [cost]
    show ((r.len + 1 : Nat) : Int) ≤ _
    omega
theorem fit_cost : ∀ l : VL, OwnL l → cost l ≤ 100000 → l.fit
  | .nil, _, _ => trivial
  | .cons k n s sub r, h, hc => by
    have h1 := cost_ge sub
    have h2 := cost_ge r
    have h3 := mOf_ge k s
    have h4 := len_costI sub
    have h5 := own_size h.1
    rw [cost] at hc
    exact ⟨by omega, by omega, fit_cost sub h.2.1 (by omega), fit_cost r h.2.2 (by omega)⟩
/-- Two lists of the same items, each sorted, are one. -/
theorem sorted_same {a b : VL} (hp : (itms a).Perm (itms b)) (ha : (itms a).Pairwise (fun x y => ltV y x = false)) (hb : (itms b).Pairwise (fun x y => ltV y x = false)) : a = b := by
  have h : itms a = itms b := List.Perm.eq_of_pairwise (le := fun x y => ltV y x = false) (fun x y _ _ h1 h2 => (ltV_eq x y h2 h1)) ha hb hp
  rw [← ofI_itms a, ← ofI_itms b, h]
theorem itms_cons (k n : Int) (s : ByteArray) (sub r : VL) : itms (.cons k n s sub r) = VL.cons k n s sub .nil :: itms r := rfl
theorem itms_td (i : Nat) (l : VL) : itms (l.take i) ++ itms (l.drop i) = itms l := by rw [← itms_app, VL.take_app_drop]
theorem itms_drop1 {i : Nat} {l : VL} (h : i < l.len) : ∃ x, itms (l.drop i) = x :: itms (l.drop (i + 1)) := by
  obtain ⟨k, n, s, sub, e⟩ := VL.drop_of_lt i l h
  exact ⟨VL.cons k n s sub .nil, by rw [e, itms_cons]⟩
theorem itms_snoc (l : VL) (k n : Int) (s : ByteArray) (sub : VL) : itms (l.app (.cons k n s sub .nil)) = itms l ++ [VL.cons k n s sub .nil] := by rw [itms_app, itms_cons]; rfl
theorem perm_ins (l : VL) (k n : Int) (s : ByteArray) (sub : VL) : (itms (VL.cons k n s sub l)).Perm (itms (l.app (.cons k n s sub .nil))) := by
  rw [itms_snoc, itms_cons]
  exact (List.perm_append_singleton _ _).symm
theorem FitL.ins {l : VL} {k n : Int} {s : ByteArray} {sub : VL} (h : FitL (l.app (.cons k n s sub .nil))) : FitL (VL.cons k n s sub l) := h.perm (perm_ins ..)
theorem FitL.base {l : VL} {k n : Int} {s : ByteArray} {sub : VL} (h : FitL (l.app (.cons k n s sub .nil))) : FitL l :=
  h.some ⟨itms l, List.Perm.refl _, by rw [itms_snoc]; exact List.sublist_append_left _ _⟩
theorem FitL.set {l : VL} {k n : Int} {s : ByteArray} {sub : VL} (h : FitL (l.app (.cons k n s sub .nil))) (i : Nat) (hi : i < l.len) : FitL ((l.take i).app (.cons k n s sub (l.drop (i + 1)))) := by
  obtain ⟨x, hx⟩ := itms_drop1 hi
  refine h.some ⟨(itms (l.take i) ++ itms (l.drop (i + 1))) ++ [VL.cons k n s sub .nil], ?_, ?_⟩
  · rw [itms_app, itms_cons, List.append_assoc]
    exact List.Perm.append_left _ (List.perm_append_singleton _ _).symm
  · rw [itms_snoc, ← itms_td i l, hx]
    exact List.Sublist.append (List.Sublist.append (List.Sublist.refl _) (List.sublist_cons_self _ _)) (List.Sublist.refl _)
theorem FitL.del {l : VL} {k n : Int} {s : ByteArray} {sub : VL} (h : FitL (l.app (.cons k n s sub .nil))) (i : Nat) (hi : i < l.len) : FitL ((l.take i).app (l.drop (i + 1))) := by
  obtain ⟨x, hx⟩ := itms_drop1 hi
  refine h.some ⟨_, List.Perm.refl _, ?_⟩
  rw [itms_snoc, itms_app, ← itms_td i l, hx, List.append_assoc]
  exact List.Sublist.append (List.Sublist.refl _) ((List.sublist_cons_self _ _).trans (List.sublist_append_left _ _))
theorem rights_snoc : ∀ (l : VL) (k n : Int) (s : ByteArray) (sub : VL), rightsL l = true → rightB k n s sub = true → rightsL (l.app (.cons k n s sub .nil)) = true
  | .nil, k, n, s, sub, _, h => by
    show (rightB k n s sub && true) = true
    rw [h]; rfl
  | .cons k' n' s' sub' r, k, n, s, sub, h, h2 => by
    rw [rightsL, Bool.and_eq_true] at h
    rw [VL.app, rightsL, Bool.and_eq_true]
    exact ⟨h.1, rights_snoc r k n s sub h.2 h2⟩
end Go.Proofs.YtbalpfpcbckghaaGreatDoor
namespace Go.Proofs.YtbalpfpcbckghaaGreatDoor
open Go.RowKit Go.Lib Go.Sort
set_option linter.unusedVariables false
set_option linter.unusedSimpArgs false

theorem itms_ofI : ∀ xs : List VL, (∀ x ∈ xs, ∃ (k n : Int) (s : ByteArray) (sub : VL), x = .cons k n s sub .nil) → itms (ofI xs) = xs
  | [], _ => rfl
  | x :: r, h => by
    obtain ⟨k, n, s, sub, rfl⟩ := h _ (List.mem_cons_self ..)
    rw [ofI, itms_app, itms_ofI r fun y hy => h y (List.mem_cons_of_mem _ hy)]
    rfl
theorem itms_one : ∀ (l : VL) (x : VL), x ∈ itms l → ∃ (k n : Int) (s : ByteArray) (sub : VL), x = .cons k n s sub .nil
  | .nil, x, h => by simp [itms] at h
  | .cons k n s sub r, x, h => by
    rcases List.mem_cons.1 h with rfl | h
    · exact ⟨_, _, _, _, rfl⟩
    · exact itms_one r x h
/-- A list, sorted; turned. -/
def sortV (l : VL) : VL := ofI ((itms l).mergeSort fun x y => !ltV y x)
def turnV (l : VL) : VL := ofI (itms l).reverse
theorem itms_sort (l : VL) : itms (sortV l) = (itms l).mergeSort fun x y => !ltV y x :=
  itms_ofI _ fun x hx => itms_one l x ((List.mergeSort_perm _ _).subset hx)
theorem itms_turn (l : VL) : itms (turnV l) = (itms l).reverse := itms_ofI _ fun x hx => itms_one l x (List.mem_reverse.1 hx)
theorem sortV_perm (l : VL) : (itms (sortV l)).Perm (itms l) := by rw [itms_sort]; exact List.mergeSort_perm _ _
theorem sortV_sorted (l : VL) : (itms (sortV l)).Pairwise (fun x y => ltV y x = false) := by
  rw [itms_sort]
  have h := List.pairwise_mergeSort (le := fun x y => !ltV y x) (fun x y z h1 h2 => by simp only [Bool.not_eq_true'] at *; exact swoV.ntrans _ _ _ h2 h1) (fun x y => by
      cases h : ltV y x with
      | false => rfl
      | true =>
        have := swoV.asymmA h
        simp [this]) (itms l)
  exact h.imp fun h => by simpa using h
theorem sort_is {m l : VL} (hp : (itms m).Perm (itms l)) (hs : (itms m).Pairwise (fun x y => ltV y x = false)) : m = sortV l :=
  sorted_same (hp.trans (sortV_perm l).symm) hs (sortV_sorted l)
theorem sort_eq {a b : VL} (hp : (itms a).Perm (itms b)) : sortV a = sortV b := sort_is ((sortV_perm a).trans hp) (sortV_sorted a)
theorem turn_is {m l : VL} (h : itms m = (itms l).reverse) : m = turnV l := by rw [← ofI_itms m, h]; rfl
theorem turn_turn (l : VL) : turnV (turnV l) = l := by
  rw [← turn_is (m := l) (l := turnV l) (by rw [itms_turn, List.reverse_reverse])]
theorem FitL.sort {l : VL} (h : FitL l) : FitL (sortV l) := h.perm (sortV_perm l)
theorem FitL.turn {l : VL} (h : FitL l) : FitL (turnV l) := h.perm (by rw [itms_turn]; exact List.reverse_perm _)
theorem len_perm {m l : VL} (h : (itms m).Perm (itms l)) : m.len = l.len := by rw [← itms_len, ← itms_len, h.length_eq]
/-- A row put into memory by a call. -/
def PRow1 (w : World) (m : VL) (e : Ending) (w' : World) : Prop :=
  ∃ (sb : Option Addr) (cb : Nat), e = .returned (.slice sb m.len cb) ∧ m.len ≤ cb ∧ RpL w' (fun b => w.heap.size ≤ b ∧ b < w'.heap.size) m sb ∧ Below w.heap.size w w'
theorem sort_r (l : VL) (sa : Option Addr) (sc : Nat) (w : World) (hF : FitL l) (hsc : l.len ≤ sc) (hrep : RpL w (fun b => b < w.heap.size) l sa) (h0 : 0 < l.len) (hl : l.len < 40) :
    Calls Tryz.prog 106 #[.slice sa l.len sc] w (PRow1 w (sortV l)) := by
  have hc := hF.made.1
  refine (sort_c l sa sc w hc hsc hrep h0 hl (kfew_own l hF.own) (fit_cost l hF.own hc)).mono ?_
  rintro e w' ⟨V, rfl, m, sb, cb, rfl, h1, h2, h3, h4, h5, h6⟩
  obtain rfl : m = sortV l := sort_is h2 h3
  exact ⟨sb, cb, by rw [h1], by rw [h1]; exact h4, h5, h6⟩
theorem turn_r (l : VL) (sa : Option Addr) (sc : Nat) (w : World) (hF : FitL l) (hsc : l.len ≤ sc) (hrep : RpL w (fun b => b < w.heap.size) l sa) (h0 : 0 < l.len) (hl : l.len < 40) :
    Calls Tryz.prog 107 #[.slice sa l.len sc] w (PRow1 w (turnV l)) := by
  have hc := hF.made.1
  refine (turn_c l sa sc w hc hsc hrep h0 hl (kfew_own l hF.own) (fit_cost l hF.own hc)).mono ?_
  rintro e w' ⟨V, rfl, m, sb, cb, rfl, h1, h2, h4, h5, h6⟩
  obtain rfl : m = turnV l := turn_is h2
  exact ⟨sb, cb, by rw [h1], by rw [h1]; exact h4, h5, h6⟩
end Go.Proofs.YtbalpfpcbckghaaGreatDoor
