/-
  The reference's reader, plain: what it reads is what lit's reads.
-/
import Derived.Test.YtoemnccklakkeaaDoorLrE
namespace Go.Proofs.YtoemnccklakkeaaDoor
open Go.RowKit Go.Lib
set_option linter.unusedVariables false

/-- How what the reference reads stands to what lit reads: a number with a 0 ahead is told by the reference at once, by lit behind it. -/
def Agr (s : ByteArray) {α : Type} (r l : Nat × Bool × α) : Prop := r.1 = l.1 ∧ (r.2.1 = true → l.2.1 = true ∧ r.2.2 = l.2.2) ∧ (r.2.1 = false → l.2.1 = false ∨ digB (pk s l.1) = true)

/-- The number read, below 0 all along. -/
def nloop (r : Nat × Bool × Nat) : Nat × Bool × Int := (r.1, r.2.1, if r.2.1 then -(r.2.2 : Int) else 0)
theorem digR_loop (s : ByteArray) (low high : Int) (neg : Bool) (lim b : Nat) (hn : neg = true → low = -(lim : Int)) (hp : neg = false → high = lim) (h1 : lim ≤ 9223372036854775808) :
    ∀ (f i a : Nat), b < i → 1 ≤ a → a ≤ lim → i ≤ s.size → s.size + 1 ≤ i + f → numLoop s low high neg f i (-(a : Int)) = nloop (digR s lim neg b f i a)
  | 0, i, a, _, _, _, hi, hf => by omega
  | f + 1, i, a, hb, ha, hal, hi, hf => by
    cases hd : digB (pk s i) with
    | false =>
      rw [numLoop_end _ _ _ _ _ _ _ hd, digR_end hd, decide_eq_true hb]; rfl
    | true =>
      have hr := digB_range hd
      have hg1 := dg1_eq (pk s i)
      have hlt := digB_in hd
      by_cases hbig : lim < 10 * a + dg1 (pk s i)
      · rw [numLoop_bad _ _ _ _ _ _ _ hd, digR_bad hd (.inr (.inr hbig))]
        · rfl
        · cases neg with
          | true => have := hn rfl; simp only [true_and, false_and, or_false, Bool.true_eq_false]; omega
          | false => have := hp rfl; simp only [true_and, false_and, false_or, Bool.false_eq_true]; omega
      · rw [numLoop_step _ _ _ _ _ _ _ hd, digR_step hd (by rintro (h | h | h) <;> omega), show 10 * -(a : Int) - (((pk s i).toNat : Int) - 48) = -((10 * a + dg1 (pk s i) : Nat) : Int) by omega]
        · exact digR_loop s low high neg lim b hn hp h1 f (i + 1) _ (by omega) (by omega) (by omega) (by omega) (by omega)
        · cases neg with
          | true => have := hn rfl; simp only [true_and, false_and, or_false, Bool.true_eq_false]; omega
          | false => have := hp rfl; simp only [true_and, false_and, false_or, Bool.false_eq_true]; omega
theorem dig_first (s : ByteArray) (low high : Int) (neg : Bool) (lim i : Nat) (hn : neg = true → low = -(lim : Int)) (hp : neg = false → high = lim) (h9 : 9 ≤ lim) (h1 : lim ≤ 9223372036854775808) (hd : digB (pk s i) = true) (h48 : pk s i ≠ 48) :
    numLoop s low high neg (s.size + 1) i 0 = nloop (digSp s lim neg i) := by
  have hr := digB_range hd
  have hg1 := dg1_eq (pk s i)
  have hlt := digB_in hd
  have hd1 : 1 ≤ dg1 (pk s i) := by
    have : (pk s i).toNat ≠ 48 := fun e => h48 (UInt8.toNat_inj.1 e)
    omega
  unfold digSp
  rw [show (0 : Int) = -((0 : Nat) : Int) from rfl, numLoop_step _ _ _ _ _ _ _ hd, digR_step hd (by rintro (h | ⟨_, _, h⟩ | h) <;> first | omega | exact h48 h), show 10 * -((0 : Nat) : Int) - (((pk s i).toNat : Int) - 48) = -((10 * 0 + dg1 (pk s i) : Nat) : Int) by omega]
  · exact digR_loop s low high neg lim i hn hp h1 s.size (i + 1) _ (by omega) (by omega) (by omega) (by omega) (by omega)
  · cases neg with
    | true => have := hn rfl; simp only [true_and, false_and, or_false, Bool.true_eq_false]; omega
    | false => have := hp rfl; simp only [true_and, false_and, false_or, Bool.false_eq_true]; omega
theorem digSp_none {s : ByteArray} {lim i : Nat} {neg : Bool} (h : digB (pk s i) = false) : digSp s lim neg i = (i, false, 0) := by
  unfold digSp; rw [digR_end h, decide_eq_false (by omega)]

theorem sgn_agr (s : ByteArray) (lo hi i : Nat) (h9 : 9 ≤ lo ∧ 9 ≤ hi) (hlo : lo ≤ 9223372036854775808) (hhi : hi ≤ 9223372036854775807) : Agr s (sgnSp s lo hi i) (numSp s (-(lo : Int)) hi i) := by
  by_cases h45 : pk s i = 45
  · have e1 : sgnSp s lo hi i = ((digSp s lo true (i + 1)).1, (digSp s lo true (i + 1)).2.1, digV true (digSp s lo true (i + 1))) := by unfold sgnSp; rw [if_pos h45]
    rw [e1]
    by_cases hb : digB (pk s (i + 1)) = false ∨ pk s (i + 1) = 48
    · have e2 : numSp s (-(lo : Int)) hi i = (i + 1, false, 0) := by unfold numSp; rw [if_pos h45, if_pos hb]
      have e3 : digSp s lo true (i + 1) = (i + 1, false, 0) := by
        rcases hb with h | h
        · exact digSp_none h
        · unfold digSp; exact digR_bad (by rw [h]; decide) (.inr (.inl ⟨rfl, rfl, h⟩))
      rw [e2, e3]
      exact ⟨rfl, (fun h => by cases h), fun _ => .inl rfl⟩
    · have hd : digB (pk s (i + 1)) = true := by
        cases hq : digB (pk s (i + 1)) with
        | true => rfl
        | false => exact absurd (.inl hq) hb
      have e2 : numSp s (-(lo : Int)) hi i = nloop (digSp s lo true (i + 1)) := by
        unfold numSp; rw [if_pos h45, if_neg hb]
        exact dig_first s _ _ true lo (i + 1) (fun _ => rfl) (fun h => by cases h) h9.1 hlo hd (fun h => hb (.inr h))
      rw [e2]
      refine ⟨rfl, fun h => ⟨h, ?_⟩, fun h => .inl h⟩
      unfold nloop digV
      simp only at h ⊢
      rw [h]; rfl
  · have e1 : sgnSp s lo hi i = ((digSp s hi false i).1, (digSp s hi false i).2.1, digV false (digSp s hi false i)) := by unfold sgnSp; rw [if_neg h45]
    rw [e1]
    by_cases h48 : pk s i = 48
    · have e2 : numSp s (-(lo : Int)) hi i = (i + 1, true, 0) := by unfold numSp; rw [if_neg h45, if_pos h48]
      have hd : digB (pk s i) = true := by rw [h48]; decide
      have hg : dg1 (pk s i) = 0 := by rw [dg1_eq, h48]; rfl
      have hlt := digB_in hd
      have e3 : digSp s hi false i = digR s hi false i s.size (i + 1) 0 := by
        unfold digSp
        rw [digR_step hd (by rintro (h | ⟨h, _⟩ | h) <;> first | omega | cases h), hg]
      obtain ⟨g, hgs⟩ : ∃ g, s.size = g + 1 := ⟨s.size - 1, by omega⟩
      rw [e2, e3, hgs]
      cases hq : digB (pk s (i + 1)) with
      | true =>
        rw [digR_bad hq (.inl ⟨by omega, rfl⟩)]
        exact ⟨rfl, (fun h => by cases h), fun _ => .inr hq⟩
      | false =>
        rw [digR_end hq, decide_eq_true (by omega)]
        exact ⟨rfl, fun _ => ⟨rfl, rfl⟩, (fun h => by cases h)⟩
    · by_cases hd : digB (pk s i) = false
      · have e2 : numSp s (-(lo : Int)) hi i = (i, false, 0) := by unfold numSp; rw [if_neg h45, if_neg h48, if_pos hd]
        rw [e2, digSp_none hd]
        exact ⟨rfl, (fun h => by cases h), fun _ => .inl rfl⟩
      · have hd' : digB (pk s i) = true := by simpa using hd
        have e2 : numSp s (-(lo : Int)) hi i = negR (nloop (digSp s hi false i)) := by
          unfold numSp; rw [if_neg h45, if_neg h48, if_neg hd]
          congr 1
          exact dig_first s _ _ false hi i (fun h => by cases h) (fun _ => rfl) h9.2 (by omega) hd' h48
        rw [e2]
        refine ⟨rfl, fun h => ⟨h, ?_⟩, fun h => .inl h⟩
        unfold negR nloop digV
        simp only at h ⊢
        rw [h]; simp

mutual
/-- A value at a place, as the reference has it. -/
def valR (s : ByteArray) : Nat → Nat → Nat × Bool × VL
  | 0, i => (i, false, .nil)
  | f + 1, i =>
    if ¬ i < s.size then (i, false, .nil)
    else if pk s i = 45 ∨ digB (pk s i) = true then ((sgnSp s 9223372036854775808 9223372036854775807 i).1, (sgnSp s 9223372036854775808 9223372036854775807 i).2.1, val1 0 (sgnSp s 9223372036854775808 9223372036854775807 i).2.2 ByteArray.empty .nil)
    else if pk s i = 35 then ((sgnSp s 2147483648 2147483647 (i + 1)).1, (sgnSp s 2147483648 2147483647 (i + 1)).2.1, val1 1 (sgnSp s 2147483648 2147483647 (i + 1)).2.2 ByteArray.empty .nil)
    else if pk s i = 34 then quoSp s i
    else if pk s i = 69 then errSp s i
    else if pk s i = 123 then
      if pk s (i + 1) = 125 then (i + 2, true, val1 4 0 ByteArray.empty .nil)
      else ((lstR s f (i + 1) .nil).1, (lstR s f (i + 1) .nil).2.1, val1 4 0 ByteArray.empty (lstR s f (i + 1) .nil).2.2)
    else (i, false, .nil)
/-- The items of a list, from one of them on. -/
def lstR (s : ByteArray) : Nat → Nat → VL → Nat × Bool × VL
  | 0, i, acc => (i, false, acc)
  | f + 1, i, acc =>
    if (valR s f i).2.1 = false then ((valR s f i).1, false, acc)
    else if pk s (valR s f i).1 = 125 then ((valR s f i).1 + 1, true, acc.app (valR s f i).2.2)
    else if pk s (valR s f i).1 = 44 then
      if pk s ((valR s f i).1 + 1) = 32 then lstR s f ((valR s f i).1 + 2) (acc.app (valR s f i).2.2)
      else ((valR s f i).1 + 1, false, acc.app (valR s f i).2.2)
    else ((valR s f i).1, false, acc.app (valR s f i).2.2)
end

/-- A sign that begins nothing: no name either. -/
theorem nm_cp : ∀ c : Fin 15, pk (nmAt c.val) 0 = 69 := by decide +kernel
theorem codeSp_no {s : ByteArray} {i : Nat} (h : pk s i ≠ 69) : codeSp s i = (i, false, 0) := by
  have hcp : ∀ a, a < 15 → cp s i (nmAt a) = 0 := fun a ha => by
    rcases Nat.eq_zero_or_pos (cp s i (nmAt a)) with e | e
    · exact e
    · exfalso
      have := cp_ge_iff.1 (Nat.le_refl (cp s i (nmAt a))) 0 e
      have h2 := nm_cp ⟨a, ha⟩
      simp only at h2
      rw [Nat.add_zero, h2] at this
      exact h this.2.2
  have hno : ∀ a, a < 15 → ¬ NmAt s i (nmAt a) 0 := fun a ha hm => by
    have h1 := (cp_iff s i (nmAt a)).2 hm
    have h2 := nm_size ⟨a, ha⟩
    simp only at h2
    rw [hcp a ha] at h1
    omega
  obtain ⟨h1, h2⟩ := codeTo_none (s := s) (i := i) 15 hno
  have h3 : (codeTo s i 15).2.2 = 0 := by
    rcases far_has s i 15 with e | ⟨a, ha, e⟩
    · exact e
    · rw [e, hcp a ha]; rfl
  unfold codeSp
  simp only [h1, h2, h3]
  rw [if_pos (by decide)]; rfl

mutual
theorem val_agr (s : ByteArray) : ∀ (f i : Nat), i ≤ s.size → Agr s (valR s f i) (valSp s f i)
  | 0, i, _ => by rw [valR, valSp]; exact ⟨rfl, (fun h => by cases h), fun _ => .inl rfl⟩
  | f + 1, i, hi => by
    rw [valR, valSp]
    by_cases hlt : i < s.size
    · rw [if_neg (by simpa using hlt)]
      by_cases hnum : pk s i = 45 ∨ digB (pk s i) = true
      · have n35 : ¬ pk s i = 35 := by
          rintro e
          rcases hnum with h | h
          · rw [e] at h; cases h
          · rw [e] at h; exact absurd h (by decide)
        rw [if_pos hnum, if_neg n35, if_pos hnum]
        have := sgn_agr s 9223372036854775808 9223372036854775807 i ⟨by omega, by omega⟩ (by omega) (by omega)
        exact ⟨this.1, fun h => ⟨(this.2.1 h).1, by simp only; rw [(this.2.1 h).2]; rfl⟩, this.2.2⟩
      rw [if_neg hnum]
      by_cases h35 : pk s i = 35
      · rw [if_pos h35, if_pos h35]
        have := sgn_agr s 2147483648 2147483647 (i + 1) ⟨by omega, by omega⟩ (by omega) (by omega)
        exact ⟨this.1, fun h => ⟨(this.2.1 h).1, by simp only; rw [(this.2.1 h).2]; rfl⟩, this.2.2⟩
      rw [if_neg h35, if_neg h35, if_neg hnum]
      by_cases h34 : pk s i = 34
      · rw [if_pos h34, if_pos h34]
        exact ⟨rfl, fun h => ⟨h, rfl⟩, fun h => .inl h⟩
      rw [if_neg h34, if_neg h34]
      by_cases h69 : pk s i = 69
      · rw [if_pos h69, if_neg (by rw [h69]; decide)]
        exact ⟨rfl, fun h => ⟨h, rfl⟩, fun h => .inl h⟩
      rw [if_neg h69]
      by_cases h123 : pk s i = 123
      · rw [if_pos h123, if_pos h123]
        by_cases h125 : pk s (i + 1) = 125
        · rw [if_pos h125, if_pos h125]
          exact ⟨rfl, fun h => ⟨rfl, rfl⟩, fun h => .inl h⟩
        · rw [if_neg h125, if_neg h125]
          have := lst_agr s f (i + 1) .nil (by omega)
          exact ⟨this.1, fun h => ⟨this.2.1 ▸ h, by simp only; rw [this.2.2 h]⟩, fun h => .inl (this.2.1 ▸ h)⟩
      · rw [if_neg h123, if_neg h123, codeSp_no h69]
        exact ⟨rfl, (fun h => by cases h), fun _ => .inl rfl⟩
    · have hiz : i = s.size := by omega
      rw [if_pos (by simpa using hlt)]
      have := valSp_end (s := s) (f + 1)
      rw [← hiz, valSp] at this
      exact ⟨this.1.symm, (fun h => by cases h), fun _ => .inl this.2⟩
theorem lst_agr (s : ByteArray) : ∀ (f i : Nat) (acc : VL), i ≤ s.size → (lstR s f i acc).1 = (lstSp s f i acc).1 ∧ (lstR s f i acc).2.1 = (lstSp s f i acc).2.1 ∧ ((lstR s f i acc).2.1 = true → (lstR s f i acc).2.2 = (lstSp s f i acc).2.2)
  | 0, i, acc, _ => by rw [lstR, lstSp]; exact ⟨rfl, rfl, fun _ => rfl⟩
  | f + 1, i, acc, hi => by
    obtain ⟨h1, h2, h3⟩ := val_agr s f i hi
    have hpl := valSp_place s f i hi
    rw [lstR, lstSp]
    cases hok : (valR s f i).2.1 with
    | false =>
      rw [if_pos rfl]
      rcases h3 hok with hl | hl
      · rw [if_pos hl, h1]; exact ⟨rfl, rfl, (fun h => by cases h)⟩
      · by_cases hl0 : (valSp s f i).2.1 = false
        · rw [if_pos hl0, h1]; exact ⟨rfl, rfl, (fun h => by cases h)⟩
        · have n44 : ¬ pk s (valSp s f i).1 = 44 := fun e => by rw [e] at hl; exact absurd hl (by decide)
          have n125 : ¬ pk s (valSp s f i).1 = 125 := fun e => by rw [e] at hl; exact absurd hl (by decide)
          rw [if_neg hl0, if_neg n44, if_neg n125, h1]; exact ⟨rfl, rfl, (fun h => by cases h)⟩
    | true =>
      obtain ⟨g1, g2⟩ := h2 hok
      rw [if_neg (show ¬ (true = false) by decide), if_neg (show ¬ (valSp s f i).2.1 = false by rw [g1]; decide), h1, g2]
      by_cases h44 : pk s (valSp s f i).1 = 44
      · have hp1 := pk_lt (s := s) (i := (valSp s f i).1) (by rw [h44]; decide)
        rw [if_neg (by rw [h44]; decide), if_pos h44, if_pos h44]
        by_cases h32 : pk s ((valSp s f i).1 + 1) = 32
        · have hp2 := pk_lt (s := s) (i := (valSp s f i).1 + 1) (by rw [h32]; decide)
          rw [if_pos h32, if_pos h32]
          exact lst_agr s f _ _ (by omega)
        · rw [if_neg h32, if_neg h32]; exact ⟨rfl, rfl, fun _ => rfl⟩
      · rw [if_neg h44, if_neg h44]
        by_cases h125 : pk s (valSp s f i).1 = 125
        · rw [if_pos h125]; exact ⟨rfl, rfl, fun _ => rfl⟩
        · rw [if_neg h125]; exact ⟨rfl, rfl, fun _ => rfl⟩
end

/-- What the reference reads of a whole text. -/
def rdR (s : ByteArray) : Nat × Bool × VL := valR s (2 * s.size + 2) 0
theorem rd_agr (s : ByteArray) : (rdR s).1 = (rdV s).1 ∧ (rdBad s ↔ ¬ ((rdR s).2.1 = true ∧ s.size ≤ (rdR s).1)) ∧ (¬ rdBad s → (rdR s).2.2 = (rdV s).2.2) := by
  obtain ⟨h1, h2, h3⟩ := val_agr s (2 * s.size + 2) 0 (Nat.zero_le _)
  have e : (rdR s).1 = (rdV s).1 := h1
  have hiff : (rdR s).2.1 = true ∧ s.size ≤ (rdR s).1 ↔ (rdV s).2.1 = true ∧ s.size ≤ (rdV s).1 := by
    constructor
    · rintro ⟨a, b⟩
      exact ⟨(h2 a).1, by rw [← e]; exact b⟩
    · rintro ⟨a, b⟩
      cases hok : (rdR s).2.1 with
      | true => exact ⟨rfl, by rw [e]; exact b⟩
      | false =>
        exfalso
        rcases h3 hok with hl | hl
        · rw [show (valSp s (2 * s.size + 2) 0).2.1 = true from a] at hl; cases hl
        · have := digB_in hl
          have hb : s.size ≤ (valSp s (2 * s.size + 2) 0).1 := b
          omega
  refine ⟨e, by unfold rdBad; rw [hiff], fun hg => ?_⟩
  unfold rdBad at hg
  have hgood := Classical.not_not.1 hg
  rw [← hiff] at hgood
  exact (h2 hgood.1).2
end Go.Proofs.YtoemnccklakkeaaDoor
