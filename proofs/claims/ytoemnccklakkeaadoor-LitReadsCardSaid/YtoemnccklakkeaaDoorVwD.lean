/-
  val's Valid; lit's Read.
-/
import Derived.Test.YtoemnccklakkeaaDoorVwC
namespace Go.Proofs.YtoemnccklakkeaaDoor
open Go.RowKit Go.Lib
set_option linter.unusedVariables false

theorem VL.fit_app : ∀ a b : VL, a.fit → b.fit → (a.app b).fit
  | .nil, b, _, h => h
  | .cons _ _ _ _ r, b, h, h2 => ⟨h.1, h.2.1, h.2.2.1, VL.fit_app r b h.2.2.2 h2⟩

theorem strLoop_len (s : ByteArray) : ∀ (f i : Nat) (l : List UInt8), i ≤ s.size → l.length ≤ i → (strLoop s f i l).2.2.length ≤ (strLoop s f i l).1
  | 0, i, l, _, h => h
  | f + 1, i, l, hi, h => by
    by_cases h34 : pk s i = 34
    · rw [strLoop_end _ _ _ _ h34]; exact h
    by_cases h92 : pk s i = 92
    · by_cases hy : pk s (i + 1) = 34 ∨ pk s (i + 1) = 92
      · have hi2 : i + 1 < s.size := pk_lt (by rcases hy with e | e <;> rw [e] <;> decide)
        rw [strLoop_esc _ _ _ _ h92 hy]
        exact strLoop_len s f (i + 2) _ (by omega) (by simp; omega)
      · rw [strLoop_esc_bad _ _ _ _ h92 hy]; simp only; omega
    cases hp : prC (pk s i) with
    | false => rw [strLoop_bad _ _ _ _ h34 h92 hp]; exact h
    | true =>
      have hi2 : i < s.size := pk_lt (fun e => by rw [e] at hp; exact absurd hp (by decide))
      rw [strLoop_next _ _ _ _ h34 h92 hp]
      exact strLoop_len s f (i + 1) _ (by omega) (by simp; omega)

theorem strSp_len (s : ByteArray) (i : Nat) (h : i < s.size) : (strSp s i).2.2.length ≤ s.size := by
  have h1 := strLoop_len s (s.size + 1) (i + 1) [] (by omega) (by simp)
  have h2 := strLoop_place s (s.size + 1) (i + 1) [] (by omega)
  unfold strSp
  simp only
  omega

theorem val1_fit {k n : Int} {t : ByteArray} {sub : VL} (h1 : t.size ≤ 140737488351232) (h2 : sub.len ≤ 140737488351232) (h3 : sub.fit) : (val1 k n t sub).fit := ⟨h1, h2, h3, trivial⟩

mutual
theorem valSp_fit (s : ByteArray) (hs : s.size ≤ 1000000000) : ∀ (f i : Nat), i ≤ s.size → (valSp s f i).2.2.fit
  | 0, i, h => by rw [valSp]; trivial
  | f + 1, i, h => by
    rw [valSp]
    split
    · exact val1_fit (by decide) (by decide) trivial
    · split
      · exact val1_fit (by decide) (by decide) trivial
      · split
        · rename_i e
          have := strSp_len s i (pk_lt (by rw [e]; decide))
          refine val1_fit ?_ (by decide) trivial
          show ((strSp s i).2.2.toArray).size ≤ _
          rw [List.size_toArray]; omega
        · split
          · rename_i e
            have hi : i < s.size := pk_lt (by rw [e]; decide)
            split
            · exact val1_fit (by decide) (by decide) trivial
            · have h1 := lstSp_fit s hs f (i + 1) .nil (by omega) trivial (Nat.zero_le _)
              have h2 := lstSp_place s f (i + 1) .nil (by omega)
              exact val1_fit (by decide) (by have := h1.2; omega) h1.1
          · exact val1_fit (by decide) (by decide) trivial
theorem lstSp_fit (s : ByteArray) (hs : s.size ≤ 1000000000) : ∀ (f i : Nat) (acc : VL), i ≤ s.size → acc.fit → acc.len ≤ i → (lstSp s f i acc).2.2.fit ∧ (lstSp s f i acc).2.2.len ≤ s.size + 1
  | 0, i, acc, h, ha, hl => by rw [lstSp]; exact ⟨ha, by simp only; omega⟩
  | f + 1, i, acc, h, ha, hl => by
    have hv := valSp_fit s hs f i h
    have hp := valSp_place s f i h
    have hone := valSp_one s f i
    rw [lstSp]
    split
    · exact ⟨ha, by simp only; omega⟩
    · rename_i hok
      obtain ⟨k, n, t, sub, e⟩ := hone (by simpa using hok)
      have hf : (acc.app (valSp s f i).2.2).fit := VL.fit_app _ _ ha hv
      have hl2 : (acc.app (valSp s f i).2.2).len = acc.len + 1 := by rw [VL.len_app, e]; rfl
      split
      · rename_i e1
        have hi1 : (valSp s f i).1 < s.size := pk_lt (by rw [e1]; decide)
        split
        · rename_i e2
          have hi2 : (valSp s f i).1 + 1 < s.size := pk_lt (by rw [e2]; decide)
          exact lstSp_fit s hs f _ _ (by omega) hf (by omega)
        · exact ⟨hf, by simp only; omega⟩
      · split
        · exact ⟨hf, by simp only; omega⟩
        · exact ⟨hf, by simp only; omega⟩
end

theorem ret_val {a b : Value} (h : a = b) : Ending.returned a = .returned b := by rw [h]
theorem LfAt.new (W : World) (n : Int) : LfAt (W.alloc (.cells #[.int .i64 n] 3)) W.heap.size n := by unfold LfAt World.alloc; simp

set_option maxHeartbeats 1000000 in
theorem valid_c (k n : Int) (s : ByteArray) (sub : VL) (sa : Option Addr) (sc : Nat) (ea : Nat → Addr) (w : World) (he : ErrsAt w ea) (hs : s.size ≤ 140737488351232) (hl : sub.len ≤ 140737488351232) (hf : sub.fit) (hsc : sub.len ≤ sc)
    (hr : RpL w (fun b => b < w.heap.size) sub sa) :
    Calls Tryd.prog 40 #[.agg #[.int .i64 k, .int .i64 n, .string s, .slice sa sub.len sc]] w fun e w' => e = .returned (errV ea (walk1 k n s sub 1 4096).1) ∧ Below w.heap.size w w' := by
  have hroom := he.room
  obtain ⟨wa, hwa⟩ : ∃ wa, wa = (w.alloc (.cells #[.int .i64 k, .int .i64 n, .string s, .slice sa sub.len sc] 31)).alloc (.cells #[.int .i64 4096] 3) := ⟨_, rfl⟩
  have hb : Below w.heap.size w wa := by rw [hwa]; exact ((Below.refl _ _).alloc (Nat.le_refl _) _).alloc (by simp) _
  have hV : StB wa w.heap.size (.int .i64 k) (.int .i64 n) (.string s) (.slice sa sub.len sc) := by rw [hwa]; exact (StB.new w _ _ _ _).alloc _
  have hL : LfAt wa (w.heap.size + 1) 4096 := by rw [hwa]; have := LfAt.new (w.alloc (.cells #[.int .i64 k, .int .i64 n, .string s, .slice sa sub.len sc] 31)) 4096; simpa using this
  have hwz : wa.heap.size = w.heap.size + 2 := by rw [hwa]; simp
  have WC := Lib.hid (walk_c (sub.size + 1) k n s sub sa sc 1 4096 (w.heap.size + 1) ea wa (by omega) (he.below hb (by omega)) hL (by omega) hs hl hf hsc
    (hr.keep (fun b hlt => hb.block b hlt) (fun b hlt => ⟨by omega, by omega⟩)) (by omega) (by omega) (by omega) (by omega))
  have v0 := hV.c0; have v1 := hV.c1; have v2 := hV.c2; have v3 := hV.c3
  have HB := Lib.hid hb
  have HWA := Lib.hid hwa
  have HWZ := Lib.hid hwz
  rw [hwa] at v0 v1 v2 v3
  clear hb hV hL hwa hwz hr
  go_enter Tryd.func40, Tryd.ntmps40
  go_wp2_with fail
  rw [← HWA.out]
  refine WC.out.mono ?_
  rintro e w5 ⟨rfl, hl5, hg5⟩
  have HG := Lib.hid hg5
  clear hg5 hl5 HWA v0 v1 v2 v3
  by_cases hc : (walk1 k n s sub 1 4096).1 = 0
  · have HC := Lib.hid hc
    rw [hc, show errV ea 0 = Value.nilIface from rfl]
    clear hc
    go_wp2_with fail
    go_ret
    exact ⟨ret_val (by rw [HC.out]; rfl), HB.out.trans ⟨HG.out.os, HG.out.tape, HG.out.output, HG.out.size, fun b hb => HG.out.block b (by have := HWZ.out; omega) (fun e => by injection e with e; omega)⟩⟩
  · have HERR := Lib.hid (show errV ea (walk1 k n s sub 1 4096).1 = .iface 142 (.pointer (some (ea (walk1 k n s sub 1 4096).1))) by unfold errV; rw [if_neg hc])
    clear hc
    rw [HERR.out]
    go_wp2_with fail
    go_ret
    exact ⟨ret_val HERR.out.symm, HB.out.trans ⟨HG.out.os, HG.out.tape, HG.out.output, HG.out.size, fun b hb => HG.out.block b (by have := HWZ.out; omega) (fun e => by injection e with e; omega)⟩⟩
end Go.Proofs.YtoemnccklakkeaaDoor
