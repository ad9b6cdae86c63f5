/-
  LitLists, plain: a text of a value that is cut off anywhere is none, and it is told where.
-/
import Derived.Test.YtoemnccklakkeaaDoorBkB
namespace Go.Proofs.YtoemnccklakkeaaDoor
open Go.RowKit Go.Lib
set_option linter.unusedVariables false

theorem drop_size {s : ByteArray} {i : Nat} {p : List UInt8} (hi : i ≤ s.size) (h : s.data.toList.drop i = p) : i + p.length = s.size := by
  have hs : s.data.toList.length = s.size := by rw [Array.length_toList]; rfl
  rw [← h, List.length_drop, hs]; omega
theorem nil_of_cut {a : UInt8} {p q : List UInt8} (h : [a] = p ++ q) (hq : q ≠ []) : p = [] := by
  cases p with
  | nil => rfl
  | cons b t =>
    injection h with _ h
    have : q = [] := (List.append_eq_nil_iff.1 h.symm).2
    exact absurd this hq

/-- At the end there is none. -/
theorem cpl_lower (s : ByteArray) (i : Nat) (n : ByteArray) (m : Nat) (hm : m ≤ n.size) : ∀ (f k : Nat), m ≤ k + f → (∀ j, k ≤ j → j < m → i + j < s.size ∧ pk s (i + j) = pk n j) → m ≤ cpl s i n f k ∨ m ≤ k
  | 0, k, hf, h => .inr (by omega)
  | f + 1, k, hf, h => by
    by_cases hk : m ≤ k
    · exact .inr hk
    · left
      obtain ⟨h1, h2⟩ := h k (Nat.le_refl _) (by omega)
      unfold cpl
      rw [if_pos ⟨by omega, h1, h2⟩]
      have hle := (cpl_le s i n f (k + 1) (by omega)).1
      rcases cpl_lower s i n m hm f (k + 1) (by omega) (fun j hj hjm => h j (by omega) hjm) with e | e
      · exact e
      · omega
theorem codeTo_far (s : ByteArray) (i a : Nat) : ∀ c, a < c → ((cp s i (nmAt a) : Nat) : Int) ≤ (codeTo s i c).2.2
  | 0, h => absurd h (Nat.not_lt_zero _)
  | c + 1, h => by
    rw [codeTo, codeStep]
    by_cases e : a = c
    · subst e
      show ((cp s i (nmL.getD a ByteArray.empty) : Nat) : Int) ≤ _
      split <;> simp only <;> omega
    · have ih := codeTo_far s i a c (by omega)
      split <;> simp only <;> omega

theorem pk_app {s : ByteArray} {p q : List UInt8} (h : s.data.toList = p ++ q) (j : Nat) (hj : j < p.length) : pk s j = p.getD j 0 := by
  unfold pk
  rw [h, List.getD_eq_getElem?_getD, List.getD_eq_getElem?_getD, List.getElem?_append_left hj]
theorem pk_at {s : ByteArray} {i : Nat} {p : List UInt8} (h : s.data.toList.drop i = p) (j : Nat) : pk s (i + j) = p.getD j 0 := by
  unfold pk
  rw [List.getD_eq_getElem?_getD, List.getD_eq_getElem?_getD, ← h, List.getElem?_drop]
theorem nm_size : ∀ a : Fin 15, 0 < (nmAt a.val).size := by decide +kernel

/-- A name that is cut off. -/
theorem codeSp_cut {s : ByteArray} {i a : Nat} {p q : List UInt8} (ha : a < 15) (hi : i ≤ s.size) (hs : s.data.toList.drop i = p) (h : (nmAt a).data.toList = p ++ q) (hq : q ≠ []) : codeSp s i = (s.size, false, 0) := by
  have hz := drop_size hi hs
  have hn : (nmAt a).data.toList.length = (nmAt a).size := by rw [Array.length_toList]; rfl
  have hlq : 0 < q.length := List.length_pos_iff.2 hq
  have hlen : p.length < (nmAt a).size := by rw [← hn, h, List.length_append]; omega
  have hnone : ∀ b, b < 15 → ¬ NmAt s i (nmAt b) 0 := by
    intro b hb hm
    have hsz : (nmAt b).size ≤ p.length := by
      have := hm ((nmAt b).size - 1) (Nat.zero_le _) (by have := nm_size ⟨b, hb⟩; simp only at this; omega)
      have h0 := nm_size ⟨b, hb⟩
      simp only at h0
      omega
    by_cases e : b = a
    · subst e; omega
    · obtain ⟨j, hj1, hj2, hne⟩ := nm_apart ⟨b, hb⟩ ⟨a, ha⟩ (by simpa using e)
      simp only at hj1 hj2 hne
      refine hne ?_
      rw [← (hm j.val (Nat.zero_le _) hj1).2, pk_at hs, pk_app h _ (by omega)]
  obtain ⟨h1, h2⟩ := codeTo_none (s := s) (i := i) 15 hnone
  have hfar := codeTo_far s i a 15 ha
  have hroom := (codeTo_room s i hi 15).2
  have hlow : p.length ≤ cp s i (nmAt a) := by
    rcases cpl_lower s i (nmAt a) p.length (by omega) ((nmAt a).size + 1) 0 (by omega) (fun j _ hj => ⟨by omega, by rw [pk_at hs, pk_app h _ hj]⟩) with e | e
    · exact e
    · rw [show p.length = 0 by omega]; exact Nat.zero_le _
  unfold codeSp
  simp only [h1, h2]
  rw [if_pos (by decide)]
  simp only [Prod.mk.injEq, and_true]
  omega

/-- A text in quotes that is cut off. -/
theorem strLoop_cut (s : ByteArray) : ∀ (l : List UInt8) (f i : Nat) (acc p q : List UInt8), prB l = true → escL l ++ [34] = p ++ q → q ≠ [] → i ≤ s.size → s.data.toList.drop i = p → p.length < f → ∃ x, strLoop s f i acc = (s.size, false, x)
  | l, 0, i, acc, p, q, _, _, _, _, _, hf => absurd hf (Nat.not_lt_zero _)
  | l, f + 1, i, acc, [], q, _, _, _, hi, hd, _ => by
    have hz := drop_size hi hd
    have hk := pk_end hd
    refine ⟨acc, ?_⟩
    rw [strLoop_bad _ _ _ _ (by rw [hk]; decide) (by rw [hk]; decide) (by rw [hk]; decide)]
    simp only [List.length_nil, Nat.add_zero] at hz
    rw [hz]
  | [], f + 1, i, acc, a :: p, q, _, he, hq, _, _, _ => by
    have := nil_of_cut (show [(34 : UInt8)] = (a :: p) ++ q from he) hq
    cases this
  | c :: t, f + 1, i, acc, a :: p, q, hp, he, hq, hi, hd, hf => by
    have hpc : prC c = true ∧ prB t = true := by unfold prB at hp ⊢; rw [List.all_cons, Bool.and_eq_true] at hp; exact hp
    rw [List.length_cons] at hf
    obtain ⟨k1, d1⟩ := pk_drop hd
    have hz := drop_size hi hd
    rw [List.length_cons] at hz
    by_cases hc : c = 34 ∨ c = 92
    · rw [escL, if_pos hc, List.cons_append, List.cons_append, List.cons_append] at he
      injection he with e1 he
      subst e1
      cases p with
      | nil =>
        have k2 := pk_end d1
        refine ⟨acc, ?_⟩
        rw [strLoop_esc_bad _ _ _ _ k1 (by rw [k2]; decide)]
        simp only [List.length_nil] at hz
        rw [← hz]
      | cons b p =>
        rw [List.cons_append] at he
        injection he with e2 he
        subst e2
        obtain ⟨k2, d2⟩ := pk_drop d1
        rw [strLoop_esc _ _ _ _ k1 (by rw [k2]; exact hc)]
        rw [List.length_cons] at hz hf
        exact strLoop_cut s t f (i + 2) _ p q hpc.2 he hq (by omega) d2 (by omega)
    · rw [escL, if_neg hc, List.cons_append, List.cons_append] at he
      injection he with e1 he
      subst e1
      rw [strLoop_next _ _ _ _ (by rw [k1]; exact fun e => hc (.inl e)) (by rw [k1]; exact fun e => hc (.inr e)) (by rw [k1]; exact hpc.1)]
      exact strLoop_cut s t f (i + 1) _ p q hpc.2 he hq (by omega) d1 (by omega)

/-- A numeral that is cut off. -/
theorem canon_cut {p q : List UInt8} (h : Canon (p ++ q)) (hp : p ≠ []) (hq : q ≠ []) : Canon p := by
  refine ⟨hp, fun c hc => h.2.1 c (by simp [hc]), fun h0 => ?_⟩
  have := h.2.2 (by cases p with | nil => exact absurd rfl hp | cons a t => exact h0)
  rw [List.length_append] at this
  have hlq : 0 < q.length := List.length_pos_iff.2 hq
  have hlp : 0 < p.length := List.length_pos_iff.2 hp
  omega
theorem numSp_cut {s : ByteArray} {i : Nat} {p q : List UInt8} (lo hi : Nat) (hlo : lo ≤ 9223372036854775808) (hhi : hi ≤ 9223372036854775807) (v : Int) (h1 : -(lo : Int) ≤ v) (h2 : v ≤ hi) (hi' : i ≤ s.size) (hs : s.data.toList.drop i = p) (h : itoa v = p ++ q) (hq : q ≠ []) :
    (numSp s (-(lo : Int)) hi i).1 = s.size := by
  have hz := drop_size hi' hs
  have hnil : NoDg [] := fun c t e => by cases e
  by_cases hv : v < 0
  · obtain ⟨u, rfl⟩ : ∃ u : Nat, v = -(u : Int) := ⟨v.natAbs, by omega⟩
    have hu : 1 ≤ u := by omega
    rw [itoa_neg u hu] at h
    cases p with
    | nil =>
      have hk := pk_end hs
      unfold numSp
      rw [if_neg (by rw [hk]; decide), if_neg (by rw [hk]; decide), if_pos (by rw [hk]; decide)]
      simpa using hz
    | cons a p =>
      rw [List.cons_append] at h
      injection h with e1 h
      subst e1
      obtain ⟨k1, d1⟩ := pk_drop hs
      simp only [List.length_cons] at hz
      cases hp : p with
      | nil =>
        rw [hp] at d1 hz
        have hk := pk_end d1
        unfold numSp
        rw [if_pos k1, if_pos (.inl (by rw [hk]; decide))]
        simpa using hz
      | cons b p' =>
        obtain ⟨hcan, hval, hpos⟩ := canon_dec u
        have hpne : p ≠ [] := by rw [hp]; exact fun e => by cases e
        have hcp : Canon p := canon_cut (by rw [← h]; exact hcan) hpne hq
        have hle : dval 0 p ≤ u := by rw [← hval, h, dval_app]; exact dval_ge q _
        have hdec := dec_of_canon _ p rfl hcp
        have hp1 : 1 ≤ dval 0 p := by
          rcases Nat.eq_zero_or_pos (dval 0 p) with e | e
          · exfalso
            rw [e] at hdec
            have h0 : decDigits 0 = [48] := by rw [decDigits_one (by omega)]; rfl
            rw [h0] at hdec
            refine hpos hu ?_
            rw [h, ← hdec]; rfl
          · exact e
        have hit : itoa (-((dval 0 p : Nat) : Int)) = 45 :: p := by rw [itoa_neg _ hp1, hdec]
        have := numSp_itoa s lo hi hlo hhi (-((dval 0 p : Nat) : Int)) [] hnil i (by rw [hit, List.append_nil]; exact hs)
        rw [if_pos ⟨by omega, by omega⟩, hit] at this
        rw [this]
        simp only [List.length_cons]; omega
  · obtain ⟨u, rfl⟩ : ∃ u : Nat, v = (u : Int) := ⟨v.toNat, by omega⟩
    rw [itoa_nonneg] at h
    cases hp : p with
    | nil =>
      rw [hp] at hs hz
      have hk := pk_end hs
      unfold numSp
      rw [if_neg (by rw [hk]; decide), if_neg (by rw [hk]; decide), if_pos (by rw [hk]; decide)]
      simpa using hz
    | cons b p' =>
      obtain ⟨hcan, hval, hpos⟩ := canon_dec u
      have hpne : p ≠ [] := by rw [hp]; exact fun e => by cases e
      have hcp : Canon p := canon_cut (by rw [← h]; exact hcan) hpne hq
      have hle : dval 0 p ≤ u := by rw [← hval, h, dval_app]; exact dval_ge q _
      have hdec := dec_of_canon _ p rfl hcp
      have hit : itoa ((dval 0 p : Nat) : Int) = p := by rw [itoa_nonneg, hdec]
      have := numSp_itoa s lo hi hlo hhi ((dval 0 p : Nat) : Int) [] hnil i (by rw [hit, List.append_nil]; exact hs)
      rw [if_pos ⟨by omega, by omega⟩, hit] at this
      rw [this]
      simp only; omega

/-- At the end no value goes on. -/
theorem valSp_end {s : ByteArray} (f : Nat) : (valSp s f s.size).1 = s.size ∧ (valSp s f s.size).2.1 = false := by
  cases f with
  | zero => rw [valSp]; exact ⟨rfl, rfl⟩
  | succ f =>
    have hd : s.data.toList.drop s.size = [] := by
      have hs : s.data.toList.length = s.size := by rw [Array.length_toList]; rfl
      rw [← hs, List.drop_length]
    have hk := pk_end hd
    have hc : codeSp s s.size = (s.size, false, 0) := by
      cases hq : (nmAt 0).data.toList with
      | nil => exact absurd hq (by decide +kernel)
      | cons c t => exact codeSp_cut (a := 0) (p := []) (q := c :: t) (by decide) (Nat.le_refl _) hd (by rw [hq]; rfl) (by simp)
    rw [valSp, if_neg (by rw [hk]; decide), if_neg (by rw [hk]; decide), if_neg (by rw [hk]; decide), if_neg (by rw [hk]; decide), hc]
    exact ⟨rfl, rfl⟩

/-- Where the items of a list are cut off. -/
def LstCut (s : ByteArray) (l : VL) : Prop := ∀ (d : Int) (f i : Nat) (acc : VL) (p q : List UInt8), l ≠ .nil → OkL l d → l.i64 → i ≤ s.size → s.data.toList.drop i = p → join (txtL l) [44, 32] ++ [125] = p ++ q → q ≠ [] → 2 * (s.size - i) + 3 ≤ f → (lstSp s f i acc).1 = s.size ∧ (lstSp s f i acc).2.1 = false
/-- Where a value is cut off. -/
def ValCut (s : ByteArray) (k n : Int) (t : ByteArray) (sub : VL) : Prop := ∀ (d : Int) (f i : Nat) (p q : List UInt8), OkL (val1 k n t sub) d → (val1 k n t sub).i64 → i ≤ s.size → s.data.toList.drop i = p → txt1 k n t (txtL sub) = p ++ q → q ≠ [] → 2 * (s.size - i) + 2 ≤ f → (valSp s f i).1 = s.size ∧ (k = 4 → (valSp s f i).2.1 = false)

theorem txt1_head {k n : Int} {t : ByteArray} {sub : VL} {len : Nat} (h : ownE k n t len = 0) : ∃ c tl, txt1 k n t (txtL sub) = c :: tl ∧ c ≠ 125 := by
  rcases own_ok h with ⟨rfl, _⟩ | ⟨rfl, _⟩ | ⟨rfl, _⟩ | ⟨rfl, g0, g1, _⟩ | ⟨rfl, _⟩
  · obtain ⟨c, tl, h, hc⟩ := itoa_head n
    refine ⟨c, tl, h, ?_⟩
    rintro rfl
    rcases hc with hc | hc
    · cases hc
    · exact absurd hc (by decide)
  · exact ⟨_, _, rfl, by decide⟩
  · exact ⟨_, _, rfl, by decide⟩
  · obtain ⟨j, rfl⟩ : ∃ j : Nat, n = j := ⟨n.toNat, by omega⟩
    have hj : j < 15 := by omega
    have hh := nm_head ⟨j, hj⟩
    have hnm : nmS (j : Int) = nmAt j := nmS_at j hj
    cases hq : (nmAt j).data.toList with
    | nil => rw [show (nmAt (⟨j, hj⟩ : Fin 15).val).data.toList = [] from hq] at hh; cases hh
    | cons c tl =>
      rw [show (nmAt (⟨j, hj⟩ : Fin 15).val).data.toList = c :: tl from hq] at hh
      injection hh with hh
      refine ⟨c, tl, ?_, by rw [hh]; decide⟩
      show (nmS (j : Int)).data.toList = _
      rw [hnm, hq]
  · exact ⟨_, _, rfl, by decide⟩

theorem val_cut {s : ByteArray} {k n : Int} {t : ByteArray} {sub : VL} (ih : LstCut s sub) : ValCut s k n t sub := by
  intro d f i p q hok h64 hi hd hpq hq hf
  have hz := drop_size hi hd
  by_cases hp : p = []
  · subst hp
    simp only [List.length_nil, Nat.add_zero] at hz
    subst hz
    have := valSp_end (s := s) f
    exact ⟨this.1, fun _ => this.2⟩
  obtain ⟨g, rfl⟩ : ∃ g, f = g + 1 := ⟨f - 1, by omega⟩
  obtain ⟨hown, hsub⟩ := OkL_one hok
  cases hpc : p with
  | nil => exact absurd hpc hp
  | cons a p' =>
  rw [hpc] at hd hpq hz
  obtain ⟨k1, d1⟩ := pk_drop hd
  simp only [List.length_cons] at hz
  have hi1 : i + 1 ≤ s.size := by omega
  rw [valSp]
  rcases own_ok hown with ⟨rfl, e1, e2⟩ | ⟨rfl, g0, g1, e1, e2⟩ | ⟨rfl, rfl, e2, hpr⟩ | ⟨rfl, g0, g1, e1, e2⟩ | ⟨rfl, rfl, e1⟩
  · refine ⟨?_, fun h => by cases h⟩
    have hpq' : itoa n = (a :: p') ++ q := hpq
    have sp := numSp_cut (s := s) (i := i) (p := a :: p') (q := q) 9223372036854775808 9223372036854775807 (by omega) (by omega) n (by have := h64.1; omega) (by have := h64.2.1; omega) hi hd hpq' hq
    obtain ⟨c, tl, hc, hcd⟩ := itoa_head n
    rw [hc] at hpq'
    injection hpq' with hca _
    subst hca
    have n35 : ¬ pk s i = 35 := by
      rw [k1]; rintro rfl
      rcases hcd with h | h
      · cases h
      · exact absurd h (by decide)
    rw [if_neg n35, if_pos (by rw [k1]; exact hcd), show (-9223372036854775808 : Int) = -((9223372036854775808 : Nat) : Int) from rfl, show (9223372036854775807 : Int) = ((9223372036854775807 : Nat) : Int) from rfl]
    exact sp
  · refine ⟨?_, fun h => by cases h⟩
    have hpq' : 35 :: itoa n = (a :: p') ++ q := hpq
    rw [List.cons_append] at hpq'
    injection hpq' with hca hpq'
    subst hca
    have sp := numSp_cut (s := s) (i := i + 1) (p := p') (q := q) 2147483648 2147483647 (by omega) (by omega) n (by omega) (by omega) hi1 d1 hpq' hq
    rw [if_pos k1, show (-2147483648 : Int) = -((2147483648 : Nat) : Int) from rfl, show (2147483647 : Int) = ((2147483647 : Nat) : Int) from rfl]
    exact sp
  · refine ⟨?_, fun h => by cases h⟩
    have hpq' : 34 :: (escL t.data.toList ++ [34]) = (a :: p') ++ q := hpq
    rw [List.cons_append] at hpq'
    injection hpq' with hca hpq'
    subst hca
    rw [if_neg (by rw [k1]; decide), if_neg (by rw [k1]; decide), if_pos k1]
    obtain ⟨x, hx⟩ := strLoop_cut s t.data.toList (s.size + 1) (i + 1) [] p' q hpr hpq' hq hi1 d1 (by omega)
    unfold strSp
    simp only [hx]
    simp
  · refine ⟨?_, fun h => by cases h⟩
    obtain ⟨j, rfl⟩ : ∃ j : Nat, n = j := ⟨n.toNat, by omega⟩
    have hj : j < 15 := by omega
    have hnm : nmS (j : Int) = nmAt j := nmS_at j hj
    have hpq' : (nmAt j).data.toList = (a :: p') ++ q := by rw [← hnm]; exact hpq
    have sp := codeSp_cut hj hi hd hpq' hq
    have hh := nm_head ⟨j, hj⟩
    have k2 : pk s i = 69 := by
      rw [show (nmAt (⟨j, hj⟩ : Fin 15).val).data.toList = (a :: p') ++ q from hpq', List.cons_append, List.head?_cons] at hh
      injection hh with hh
      rw [k1, hh]
    rw [if_neg (by rw [k2]; decide), if_neg (by rw [k2]; decide), if_neg (by rw [k2]; decide), if_neg (by rw [k2]; decide), sp]
  · have hpq' : 123 :: (join (txtL sub) [44, 32] ++ [125]) = (a :: p') ++ q := hpq
    rw [List.cons_append] at hpq'
    injection hpq' with hca hpq'
    subst hca
    rw [if_neg (by rw [k1]; decide), if_neg (by rw [k1]; decide), if_neg (by rw [k1]; decide), if_pos k1]
    have hne : ¬ pk s (i + 1) = 125 := by
      cases p' with
      | nil => rw [pk_end d1]; decide
      | cons b p'' =>
        cases sub with
        | nil =>
          have h0 : [(125 : UInt8)] = (b :: p'') ++ q := hpq'
          cases nil_of_cut h0 hq
        | cons k' n' t' sub' rest =>
          obtain ⟨c, tl, h, hc⟩ := txt1_head (sub := sub') hsub.1
          rw [txtL, join_cons, h, List.cons_append, List.cons_append, List.cons_append] at hpq'
          injection hpq' with hcb _
          rw [(pk_drop d1).1, ← hcb]; exact hc
    rw [if_neg hne]
    by_cases hn : sub = .nil
    · subst hn
      have hp0 : p' = [] := nil_of_cut (show [(125 : UInt8)] = p' ++ q from hpq') hq
      subst hp0
      simp only [List.length_nil] at hz
      obtain ⟨g', rfl⟩ : ∃ g', g = g' + 1 := ⟨g - 1, by omega⟩
      have he := valSp_end (s := s) g'
      rw [show i + 1 = s.size by omega, lstSp, if_pos he.2]
      exact ⟨he.1, fun _ => rfl⟩
    · have := ih (d + 1) g (i + 1) .nil p' q hn hsub h64.2.2.1 hi1 d1 hpq' hq (by omega)
      exact ⟨this.1, fun _ => this.2⟩

theorem lst_cut (s : ByteArray) : ∀ l : VL, LstCut s l
  | .nil => fun _ _ _ _ _ _ h => absurd rfl h
  | .cons k n t sub rest => by
    have hsub := lst_cut s sub
    have hrest := lst_cut s rest
    intro d f i acc p q _ hok h64 hi hd hpq hq hf
    have hz := drop_size hi hd
    obtain ⟨g, rfl⟩ : ∃ g, f = g + 1 := ⟨f - 1, by omega⟩
    have hok1 : OkL (val1 k n t sub) d := ⟨hok.1, hok.2.1, hok.2.2.1, trivial⟩
    have h641 : (val1 k n t sub).i64 := ⟨h64.1, h64.2.1, h64.2.2.1, trivial⟩
    rw [txtL, join_cons, List.append_assoc] at hpq
    have hend : ∀ j, j = s.size → pk s j = 0 := fun j hj => by
      have hs : s.data.toList.length = s.size := by rw [Array.length_toList]; rfl
      rw [hj]; exact pk_end (by rw [← hs, List.drop_length])
    rw [lstSp]
    by_cases hlt : p.length < (txt1 k n t (txtL sub)).length
    · obtain ⟨q1, hq1, hq1e⟩ : ∃ q1, txt1 k n t (txtL sub) = p ++ q1 ∧ q1 ≠ [] := by
        refine ⟨(txt1 k n t (txtL sub)).drop p.length, ?_, ?_⟩
        · have h1 := congrArg (List.take p.length) hpq
          rw [List.take_append_of_le_length (by omega), List.take_left] at h1
          conv => lhs; rw [← List.take_append_drop p.length (txt1 k n t (txtL sub)), h1]
        · intro e
          have := List.length_drop (i := p.length) (l := txt1 k n t (txtL sub))
          rw [e, List.length_nil] at this
          omega
      have hv := (val_cut hsub (k := k) (n := n) (t := t) d g i p q1 hok1 h641 hi hd hq1 hq1e (by omega)).1
      by_cases hf2 : (valSp s g i).2.1 = false
      · rw [if_pos hf2]; exact ⟨hv, rfl⟩
      · have hk := hend _ hv
        rw [if_neg hf2, if_neg (by rw [hk]; decide), if_neg (by rw [hk]; decide)]
        exact ⟨hv, rfl⟩
    · obtain ⟨r, hr⟩ : ∃ r, p = txt1 k n t (txtL sub) ++ r := by
        refine ⟨p.drop (txt1 k n t (txtL sub)).length, ?_⟩
        have h1 := congrArg (List.take (txt1 k n t (txtL sub)).length) hpq
        rw [List.take_left, List.take_append_of_le_length (by omega)] at h1
        conv => lhs; rw [← List.take_append_drop (txt1 k n t (txtL sub)).length p, ← h1]
      subst hr
      rw [List.append_assoc] at hpq
      replace hpq := List.append_cancel_left hpq
      have hnd : NoDg r := by
        intro c u e
        subst e
        cases rest with
        | nil =>
          have h0 : [(125 : UInt8)] = (c :: u) ++ q := by simpa [txtL, joinTail] using hpq
          cases nil_of_cut h0 hq
        | cons k2 n2 t2 sub2 rest2 =>
          have hj : joinTail [44, 32] (txtL (.cons k2 n2 t2 sub2 rest2)) = 44 :: 32 :: join (txtL (.cons k2 n2 t2 sub2 rest2)) [44, 32] := by
            rw [txtL, join_cons]; simp [joinTail]
          rw [hj, List.cons_append, List.cons_append] at hpq
          injection hpq with e _
          rw [← e]; decide
      have hv := val_back (lst_back s sub) d g i r hok1 h641 hd hnd (by omega)
      have hdr := drop_add hd
      rw [hv]
      simp only
      rw [if_neg (by decide)]
      rw [List.length_append] at hz
      cases r with
      | nil =>
        have hk := pk_end hdr
        simp only [List.length_nil] at hz
        rw [if_neg (by rw [hk]; decide), if_neg (by rw [hk]; decide)]
        exact ⟨by simp only; omega, rfl⟩
      | cons c u =>
        cases rest with
        | nil =>
          have h0 : [(125 : UInt8)] = (c :: u) ++ q := by simpa [txtL, joinTail] using hpq
          cases nil_of_cut h0 hq
        | cons k2 n2 t2 sub2 rest2 =>
          have hj : joinTail [44, 32] (txtL (.cons k2 n2 t2 sub2 rest2)) = 44 :: 32 :: join (txtL (.cons k2 n2 t2 sub2 rest2)) [44, 32] := by
            rw [txtL, join_cons]; simp [joinTail]
          rw [hj, List.cons_append, List.cons_append] at hpq
          injection hpq with e hpq
          subst e
          obtain ⟨kc, dc⟩ := pk_drop hdr
          rw [if_pos kc]
          simp only [List.length_cons] at hz
          cases u with
          | nil =>
            have hk := pk_end dc
            simp only [List.length_nil] at hz
            rw [if_neg (by rw [hk]; decide)]
            exact ⟨by simp only; omega, rfl⟩
          | cons b u =>
            injection hpq with e hpq
            subst e
            obtain ⟨kb, db⟩ := pk_drop dc
            rw [if_pos kb]
            simp only [List.length_cons] at hz
            exact hrest d g _ _ u q (fun h => by cases h) hok.2.2.2 h64.2.2.2 (by omega) db hpq hq (by omega)

/-- A list's text that is cut off is not read, and it is told at its end. -/
theorem rdV_cut {s : ByteArray} {sub : VL} {d : Int} {q : List UInt8} (hok : OkL (val1 4 0 ⟨#[]⟩ sub) d) (h64 : (val1 4 0 ⟨#[]⟩ sub).i64) (h : txt1 4 0 ⟨#[]⟩ (txtL sub) = s.data.toList ++ q) (hq : q ≠ []) : (rdV s).1 = s.size ∧ (rdV s).2.1 = false := by
  have := val_cut (lst_cut s sub) d (2 * s.size + 2) 0 s.data.toList q hok h64 (Nat.zero_le _) (List.drop_zero) h hq (by omega)
  exact ⟨this.1, this.2 rfl⟩
end Go.Proofs.YtoemnccklakkeaaDoor
