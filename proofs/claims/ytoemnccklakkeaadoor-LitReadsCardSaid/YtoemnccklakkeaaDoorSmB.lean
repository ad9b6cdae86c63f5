/-
  The reference's SameValue and SameValues: the walks.
-/
import Derived.Test.YtoemnccklakkeaaDoorSmA
import Derived.Test.YtoemnccklakkeaaDoorCode
import Derived.StillTailTactics
namespace Go.Proofs.YtoemnccklakkeaaDoor
open Go.RowKit Go.Lib
set_option linter.unusedVariables false

def SamesC (N : Nat) : Prop := ∀ (la lb : VL) (sa sb : Option Addr) (ca cb : Nat) (w : World), la.size < N → la.len ≤ 140737488351232 → lb.len ≤ 140737488351232 → la.fit → lb.fit → la.len ≤ ca → lb.len ≤ cb → RpL w (fun b => b < w.heap.size) la sa → RpL w (fun b => b < w.heap.size) lb sb →
  Calls Tryd.prog 47 #[.slice sa la.len ca, .slice sb lb.len cb] w fun e w' => e = .returned (.bool (sameL la lb)) ∧ Below w.heap.size w w'

theorem beq_dec (a b : Int) : (a == b) = decide (a = b) := by
  by_cases h : a = b
  · subst h; simp
  · rw [decide_eq_false h, beq_eq_false_iff_ne]; exact h
theorem sbeq_dec (a b : ByteArray) : (a.toList == b.toList) = decide (a = b) := by
  by_cases h : a = b
  · subst h; simp
  · rw [decide_eq_false h]; exact str_ne h

set_option maxRecDepth 100000 in
set_option maxHeartbeats 2000000 in
theorem sameV_of (k n : Int) (s : ByteArray) (a : VL) (sa : Option Addr) (ca : Nat) (k' n' : Int) (s' : ByteArray) (a' : VL) (sa' : Option Addr) (ca' : Nat) (w : World) (ih : SamesC (a.size + 1))
    (hf : (val1 k n s a).fit) (hf' : (val1 k' n' s' a').fit) (hc : a.len ≤ ca) (hc' : a'.len ≤ ca') (hr : RpL w (fun b => b < w.heap.size) a sa) (hr' : RpL w (fun b => b < w.heap.size) a' sa') :
    Calls Tryd.prog 20 #[.agg #[.int .i64 k, .int .i64 n, .string s, .slice sa a.len ca], .agg #[.int .i64 k', .int .i64 n', .string s', .slice sa' a'.len ca']] w fun e w' => e = .returned (.bool (same1 k n s a k' n' s' a')) ∧ Below w.heap.size w w' := by
  obtain ⟨wa, hwa⟩ : ∃ wa, wa = (w.alloc (.cells #[.int .i64 k, .int .i64 n, .string s, .slice sa a.len ca] 31)).alloc (.cells #[.int .i64 k', .int .i64 n', .string s', .slice sa' a'.len ca'] 31) := ⟨_, rfl⟩
  have hba : Below w.heap.size w wa := by rw [hwa]; exact ((Below.refl _ _).alloc (Nat.le_refl _) _).alloc (by simp) _
  have hwz : wa.heap.size = w.heap.size + 2 := by rw [hwa]; simp
  have hV : StB wa w.heap.size (.int .i64 k) (.int .i64 n) (.string s) (.slice sa a.len ca) := by rw [hwa]; exact (StB.new w _ _ _ _).alloc _
  have hV' : StB wa (w.heap.size + 1) (.int .i64 k') (.int .i64 n') (.string s') (.slice sa' a'.len ca') := by
    rw [hwa]; have := StB.new (w.alloc (.cells #[.int .i64 k, .int .i64 n, .string s, .slice sa a.len ca] 31)) (.int .i64 k') (.int .i64 n') (.string s') (.slice sa' a'.len ca')
    simpa using this
  have IH := Lib.hid (ih a a' sa sa' ca ca' wa (by omega) hf.2.1 hf'.2.1 hf.2.2.1 hf'.2.2.1 hc hc' (hr.keep (fun b hb => hba.block b hb) (fun b hb => by omega)) (hr'.keep (fun b hb => hba.block b hb) (fun b hb => by omega)))
  have v3 := hV.c3; have v3' := hV'.c3
  rw [hwa] at v3 v3'
  have HV := Lib.hid hV
  have HV' := Lib.hid hV'
  have HB := Lib.hid hba
  have HWA := Lib.hid hwa
  have HWZ := Lib.hid hwz
  have e1 := beq_dec k k'
  have e2 := beq_dec n n'
  have e3 := sbeq_dec s s'
  have HS := Lib.hid (show same1 k n s a k' n' s' a' = (sameL a a' && decide (k = k') && decide (n = n') && decide (s = s')) from rfl)
  rw [HS.out]
  obtain ⟨q, hq⟩ : ∃ q, q = sameL a a' := ⟨_, rfl⟩
  obtain ⟨b1, hb1⟩ : ∃ b1, b1 = decide (k = k') := ⟨_, rfl⟩
  obtain ⟨b2, hb2⟩ : ∃ b2, b2 = decide (n = n') := ⟨_, rfl⟩
  obtain ⟨b3, hb3⟩ : ∃ b3, b3 = decide (s = s') := ⟨_, rfl⟩
  rw [← hq] at IH ⊢
  rw [← hb1] at e1 ⊢
  rw [← hb2] at e2 ⊢
  rw [← hb3] at e3 ⊢
  clear hba hwz hV hV' hwa hr hr' hq hb1 hb2 hb3 HS ih
  have fin : ∀ w5, Below wa.heap.size wa w5 → Below w.heap.size w w5 := fun w5 h => HB.out.trans (below_le' h HB.out.size)
  have FIN := Lib.hid fin
  clear fin
  cases q with
  | false =>
    clear e1 e2 e3
    go_enter Tryd.func20, Tryd.ntmps20
    go_wp2_with fail
    rw [← HWA.out]
    refine IH.out.mono ?_
    rintro e w5 ⟨rfl, hb5⟩
    have HB5 := Lib.hid (FIN.out _ hb5)
    clear hb5
    go_wp2_with fail
    go_ret
    exact ⟨rfl, HB5.out⟩
  | true =>
    cases b1 with
    | false =>
      clear e2 e3
      go_enter Tryd.func20, Tryd.ntmps20
      go_wp2_with fail
      rw [← HWA.out]
      refine IH.out.mono ?_
      rintro e w5 ⟨rfl, hb5⟩
      have hv5 := HV.out.below' hb5
      have hv5' := HV'.out.below' hb5
      have u0 := hv5.c0; have u0' := hv5'.c0
      have HB5 := Lib.hid (FIN.out _ hb5)
      clear hb5 hv5 hv5' v3 v3'
      go_wp2_with fail
      go_ret
      exact ⟨rfl, HB5.out⟩
    | true =>
      cases b2 with
      | false =>
        clear e3
        go_enter Tryd.func20, Tryd.ntmps20
        go_wp2_with fail
        rw [← HWA.out]
        refine IH.out.mono ?_
        rintro e w5 ⟨rfl, hb5⟩
        have hv5 := HV.out.below' hb5
        have hv5' := HV'.out.below' hb5
        have u0 := hv5.c0; have u0' := hv5'.c0
        have u1 := hv5.c1; have u1' := hv5'.c1
        have HB5 := Lib.hid (FIN.out _ hb5)
        clear hb5 hv5 hv5' v3 v3'
        go_wp2_with fail
        go_ret
        exact ⟨rfl, HB5.out⟩
      | true =>
        go_enter Tryd.func20, Tryd.ntmps20
        go_wp2_with fail
        rw [← HWA.out]
        refine IH.out.mono ?_
        rintro e w5 ⟨rfl, hb5⟩
        have hv5 := HV.out.below' hb5
        have hv5' := HV'.out.below' hb5
        have u0 := hv5.c0; have u0' := hv5'.c0
        have u1 := hv5.c1; have u1' := hv5'.c1
        have u2 := hv5.c2; have u2' := hv5'.c2
        have HB5 := Lib.hid (FIN.out _ hb5)
        clear hb5 hv5 hv5' v3 v3'
        go_wp2_with fail
        go_ret
        exact ⟨ret_bool (by simp), HB5.out⟩
end Go.Proofs.YtoemnccklakkeaaDoor
