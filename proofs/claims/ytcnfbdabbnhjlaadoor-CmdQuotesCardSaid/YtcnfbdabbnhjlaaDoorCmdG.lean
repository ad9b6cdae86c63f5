/- Contracts of the functions that the statement reaches, and the plain mathematics beneath: several texts joined. -/
import Derived.Carry
import Derived.SliceStrings
import Derived.Test.YtcnfbdabbnhjlaaDoorCmdA
import Derived.Test.YtcnfbdabbnhjlaaDoorCmdB
import Derived.Test.YtcnfbdabbnhjlaaDoorCmdC
import Derived.Test.YtcnfbdabbnhjlaaDoorCmdD
import Derived.Test.YtcnfbdabbnhjlaaDoorCmdE
import Derived.Test.YtcnfbdabbnhjlaaDoorCmdF
namespace Go.Proofs.YtcnfbdabbnhjlaaDoor
open Go.ChangeShapes Go.WideShapes Go.ChangeAt Go.RowKit Go.Lib
set_option linter.unusedVariables false

theorem reach_eq : reachBytes = 140737488351232 := by unfold reachBytes; decide
theorem list4 {α : Type} {l : List α} (h : l.length = 4) : ∃ a b c d, l = [a, b, c, d] := by
  match l, h with
  | [a, b, c, d], _ => exact ⟨a, b, c, d, rfl⟩
theorem cells_value : Tryd.prog.cellsOf 70 = 4 := by kernel_rfl
theorem cells_int : Tryd.prog.cellsOf 3 = 1 := by kernel_rfl
theorem cells_int64 : Tryd.prog.cellsOf 2 = 1 := by kernel_rfl
theorem cells_string : Tryd.prog.cellsOf 9 = 1 := by kernel_rfl
theorem cells_values : Tryd.prog.cellsOf 68 = 1 := by kernel_rfl
theorem bytes_value : Tryd.prog.bytesOf 70 = 56 := by kernel_rfl

section
variable {H : Type} {enc : TypeId × Value → H} {W : World} {sp : Nat → Bool} {held : Bool}

theorem trod_val {n : Nat} {cs : List Value} {x : DataW H × List MemPlace} (h : DataW.trod enc Tryd.prog W 0 sp held n 70 cs = some x) :
    ∃ (m : Nat) (k i : Int) (s : ByteArray) (sl : Value) (y : DataW H × List MemPlace), n = m + 1 ∧ cs = [.int .i64 k, .int .i64 i, .string s, sl] ∧ x.1 = .agg [.lit (.int .i64 k), .lit (.int .i64 i), .lit (.string s.data.toList), y.1] ∧
      (-9223372036854775808 ≤ i ∧ i ≤ 9223372036854775807) ∧ DataW.trod enc Tryd.prog W 0 sp held m 68 [sl] = some y := by
  obtain ⟨xs, m, rfl, rfl, hl, hlen, hf⟩ := DataW.trod_struct Tryd.underlying70 h
  rw [cells_value] at hl
  obtain ⟨c0, c1, c2, c3, rfl⟩ := list4 hl
  obtain ⟨y0, y1, y2, y3, rfl⟩ := list4 hlen
  have h0 : DataW.trod enc Tryd.prog W 0 sp held m 3 [c0] = some y0 := by simpa [cells_int] using hf 0 _ rfl
  have h1 : DataW.trod enc Tryd.prog W 0 sp held m 2 [c1] = some y1 := by simpa [cells_int64] using hf 1 _ rfl
  have h2 : DataW.trod enc Tryd.prog W 0 sp held m 9 [c2] = some y2 := by simpa [cells_string] using hf 2 _ rfl
  have h3 : DataW.trod enc Tryd.prog W 0 sp held m 68 [c3] = some y3 := by simpa [cells_values] using hf 3 _ rfl
  obtain ⟨k, e0, rfl, w0⟩ := DataW.trod_int Tryd.underlying3 h0
  obtain ⟨i, e1, rfl, w1⟩ := DataW.trod_int Tryd.underlying2 h1
  obtain ⟨s, e2, rfl, w2⟩ := DataW.trod_string Tryd.underlying9 h2
  injection e0 with e0 _
  injection e1 with e1 _
  injection e2 with e2 _
  subst e0; subst e1; subst e2
  exact ⟨m, k, i, s, c3, y3, rfl, rfl, rfl, i64_range w1, h3⟩

theorem weights_value (k i : Int) (l : List UInt8) (d : DataW H) : DataW.weights Tryd.prog 70 (.agg [.lit (.int .i64 k), .lit (.int .i64 i), .lit (.string l), d]) = l.length :: DataW.weights Tryd.prog 68 d := by
  conv => lhs; unfold DataW.weights
  rw [Tryd.underlying70]
  simp [DataW.weightsEach, DataW.weights]
theorem weights_values (es r : List (DataW H)) : DataW.weights Tryd.prog 68 (.slice es r) = (es.length + r.length) * 56 :: (DataW.weightsAll Tryd.prog 70 es ++ DataW.weightsAll Tryd.prog 70 r) := by
  conv => lhs; unfold DataW.weights
  rw [Tryd.underlying68]
  simp only [bytes_value]
theorem weightsAll_cons (d : DataW H) (r : List (DataW H)) (t : TypeId) : DataW.weightsAll Tryd.prog t (d :: r) = DataW.weights Tryd.prog t d ++ DataW.weightsAll Tryd.prog t r := by rw [DataW.weightsAll]

/-- What comes of a value's reading. -/
def OpenV (W : World) (cs : List Value) : Prop := ∃ (k i : Int) (s : ByteArray) (sub : VL) (sa : Option Addr) (sc : Nat), cs = [.int .i64 k, .int .i64 i, .string s, .slice sa sub.len sc] ∧ (val1 k i s sub).fit ∧ (val1 k i s sub).i64 ∧ sub.len ≤ sc ∧ RpL W (fun b => b < W.heap.size) sub sa
/-- What comes of a list's reading. -/
def OpenL (W : World) (v : Value) : Prop := ∃ (sub : VL) (sa : Option Addr) (sc : Nat), v = .slice sa sub.len sc ∧ sub.fit ∧ sub.i64 ∧ sub.len ≤ 140737488351232 ∧ sub.len ≤ sc ∧ RpL W (fun b => b < W.heap.size) sub sa

theorem open_items {W : World} {m : Nat} (ih : ∀ (cs : List Value) (x : DataW H × List MemPlace), DataW.trod enc Tryd.prog W 0 sp held m 70 cs = some x → (DataW.weights Tryd.prog 70 x.1).all (· ≤ reachBytes) = true → OpenV W cs) (b o : Nat) :
    ∀ (es : List (DataW H × List MemPlace)) (j : Nat), (∀ i, i < es.length → (W.cells? 0 ((⟨b, o, none⟩ : Addr).add ((j + i) * 4)) 4).bind (DataW.trod enc Tryd.prog W 0 sp held m 70) = es[i]?) → (DataW.weightsAll Tryd.prog 70 (es.map (·.1))).all (· ≤ reachBytes) = true →
      ∃ sub : VL, sub.len = es.length ∧ sub.fit ∧ sub.i64 ∧ RpL W (fun b => b < W.heap.size) sub (some ⟨b, o + 4 * j, none⟩)
  | [], j, _, _ => ⟨.nil, rfl, trivial, trivial, trivial⟩
  | e :: r, j, hel, hw => by
    have h0 := hel 0 (by simp)
    rw [Nat.add_zero, List.getElem?_cons_zero, Option.bind_eq_some_iff] at h0
    obtain ⟨cs, hcs, ht⟩ := h0
    rw [List.map_cons, weightsAll_cons, List.all_append, Bool.and_eq_true] at hw
    obtain ⟨k, i, s, sub, sa, sc, rfl, hfit, h64, hsc, hrep⟩ := ih cs e ht hw.1
    obtain ⟨rest, hrl, hrf, hr6, hrr⟩ := open_items ih b o r (j + 1) (fun i hi => by
      have := hel (i + 1) (by simp; omega)
      rw [List.getElem?_cons_succ, show j + (i + 1) = j + 1 + i by omega] at this
      exact this) hw.2
    obtain ⟨_, _, hcell⟩ := World.cells?_some hcs
    have ha : ∀ q, q < 4 → W.cell? ⟨b, o + 4 * j + q, none⟩ = ([.int .i64 k, .int .i64 i, .string s, .slice sa sub.len sc] : List Value)[q]? := fun q hq => by
      have := hcell q hq
      rw [show (((⟨b, o, none⟩ : Addr).add (j * 4)).add q) = ⟨b, o + 4 * j + q, none⟩ by
        rw [Lib.add_plain, Lib.add_plain, Nat.mul_comm]] at this
      exact this
    have hb : b < W.heap.size := by
      have h0 := ha 0 (by omega)
      unfold World.cell? at h0
      rcases Nat.lt_or_ge b W.heap.size with hlt | hge
      · exact hlt
      · simp only [Array.getElem?_eq_none hge] at h0; cases h0
    refine ⟨.cons k i s sub rest, by rw [VL.len, hrl, List.length_cons], ⟨hfit.1, hfit.2.1, hfit.2.2.1, hrf⟩, ⟨h64.1, h64.2.1, h64.2.2.1, hr6⟩, b, o + 4 * j, sa, sc, rfl, hb, ha 0 (by omega), ha 1 (by omega), ha 2 (by omega), ha 3 (by omega), hsc, hrep, ?_⟩
    rw [show o + 4 * j + 4 = o + 4 * (j + 1) by omega]
    exact hrr

set_option maxRecDepth 100000 in
theorem open_list {W : World} {m : Nat} (ih : ∀ m', m' < m → ∀ (cs : List Value) (x : DataW H × List MemPlace), DataW.trod enc Tryd.prog W 0 sp held m' 70 cs = some x → (DataW.weights Tryd.prog 70 x.1).all (· ≤ reachBytes) = true → OpenV W cs) {v : Value} {y : DataW H × List MemPlace}
    (h : DataW.trod enc Tryd.prog W 0 sp held m 68 [v] = some y) (hw : (DataW.weights Tryd.prog 68 y.1).all (· ≤ reachBytes) = true) : OpenL W v := by
  rcases DataW.trod_slice Tryd.underlying68 h with ⟨hcs, rfl⟩ | ⟨a, len, cap, elems, rest, n, rfl, hcs, rfl, _, hlc, _, hlen, hel, _, _⟩
  · injection hcs with hcs _
    exact ⟨.nil, none, 0, hcs, trivial, trivial, by decide, Nat.le_refl _, trivial⟩
  · injection hcs with hcs _
    subst hcs
    simp only [weights_values, List.all_cons, List.all_append, Bool.and_eq_true, decide_eq_true_eq, List.length_map] at hw
    obtain ⟨hw1, hw2, _⟩ := hw
    have hrb := reach_eq
    rw [hrb] at hw1
    by_cases h0 : len = 0
    · subst h0
      exact ⟨.nil, some a, cap, rfl, trivial, trivial, by decide, Nat.zero_le _, trivial⟩
    obtain ⟨b, o, spot⟩ := a
    have hspot : spot = none := by
      have e0 := hel 0 (by omega)
      have : ∃ y0, elems[0]? = some y0 := ⟨elems[0], List.getElem?_eq_getElem (by omega)⟩
      obtain ⟨y0, hy0⟩ := this
      rw [hy0, Option.bind_eq_some_iff] at e0
      obtain ⟨cs, hcs, _⟩ := e0
      rw [cells_value] at hcs
      obtain ⟨_, hl4, hcell⟩ := World.cells?_some hcs
      have g0 := hcell 0 (by omega)
      rw [List.getElem?_eq_getElem (by omega)] at g0
      simpa [Addr.add] using World.cell?_spot g0
    subst hspot
    obtain ⟨sub, hsl, hsf, hs6, hrep⟩ := open_items (ih n (by omega)) b o elems 0 (fun i hi => by
      have := hel i (by omega)
      rw [cells_value] at this
      rw [Nat.zero_add]; exact this) hw2
    rw [hlen] at hsl
    refine ⟨sub, some ⟨b, o, none⟩, cap, by rw [hsl], hsf, hs6, by omega, by omega, ?_⟩
    rw [show o = o + 4 * 0 by omega]; exact hrep

theorem open_val {W : World} : ∀ (n : Nat) (cs : List Value) (x : DataW H × List MemPlace), DataW.trod enc Tryd.prog W 0 sp held n 70 cs = some x → (DataW.weights Tryd.prog 70 x.1).all (· ≤ reachBytes) = true → OpenV W cs := by
  intro n
  induction n using Nat.strongRecOn with
  | _ n ih =>
    intro cs x h hw
    obtain ⟨m, k, i, s, sl, y, rfl, rfl, hx, hi, hy⟩ := trod_val h
    rw [hx, weights_value, List.all_cons, Bool.and_eq_true, decide_eq_true_eq] at hw
    have hrb := reach_eq
    rw [hrb] at hw
    have hs : s.data.toList.length = s.size := by rw [Array.length_toList]; rfl
    obtain ⟨sub, sa, sc, rfl, hsf, hs6, hsl, hsc, hrep⟩ := open_list (m := m) (fun m' hm' => ih m' (by omega)) hy (by rw [hrb]; exact hw.2)
    exact ⟨k, i, s, sub, sa, sc, rfl, ⟨by omega, hsl, hsf, trivial⟩, ⟨hi.1, hi.2, hs6, trivial⟩, hsc, hrep⟩
end

section
variable {H : Type} {enc : TypeId × Value → H} {W : World} {sp : Nat → Bool} {held : Bool}
set_option maxRecDepth 100000 in
/-- A value that was handed in. -/
theorem open_value {r : Reach} {b0 : Nat} {v : Value} {d : DataW H} {p : List MemPlace} (hv : Value.okWide Tryd.prog W r b0 70 v) (h : DataW.Trod enc Tryd.prog W 0 sp held 70 v d p)
    (hw : (DataW.weights Tryd.prog 70 d).all (· ≤ reachBytes) = true) :
    ∃ (k n : Int) (s : ByteArray) (sub : VL) (sa : Option Addr) (sc : Nat), v = .agg #[.int .i64 k, .int .i64 n, .string s, .slice sa sub.len sc] ∧ (val1 k n s sub).fit ∧ (val1 k n s sub).i64 ∧ sub.len ≤ sc ∧ RpL W (fun b => b < W.heap.size) sub sa := by
  obtain ⟨cs, rfl, _⟩ := okWide_struct Tryd.underlying70 hv
  obtain ⟨fuel, hf⟩ := h
  obtain ⟨k, n, s, sub, sa, sc, hcs, rest⟩ := open_val fuel _ _ hf hw
  refine ⟨k, n, s, sub, sa, sc, ?_, rest⟩
  rw [← Array.toArray_toList (xs := cs)]
  exact congrArg (fun l : List Value => Value.agg l.toArray) hcs
theorem open_values {d : DataW H} {v : Value} {p : List MemPlace} (hv : v.cells.toList = [v]) (h : DataW.Trod enc Tryd.prog W 0 sp held 68 v d p)
    (hw : (DataW.weights Tryd.prog 68 d).all (· ≤ reachBytes) = true) : OpenL W v := by
  obtain ⟨fuel, hf⟩ := h
  rw [hv] at hf
  exact open_list (m := fuel) (fun m' _ => open_val m') hf hw
end

set_option maxRecDepth 100000 in
theorem cells_slice {W : World} {r : Reach} {b0 : Nat} {t e : TypeId} {v : Value} (ht : Tryd.prog.underlying t = some (.slice e)) (h : Value.okWide Tryd.prog W r b0 t v) : v.cells.toList = [v] := by
  obtain ⟨a, len, cap, rfl⟩ := okWide_slice ht h
  rfl
theorem weights_head {H : Type} {t : TypeId} {ts : List TypeId} {d : DataW H} {r : List (DataW H)} {p : Nat → Bool} (h : (DataW.weightsEach Tryd.prog (t :: ts) (d :: r)).all p = true) : (DataW.weights Tryd.prog t d).all p = true ∧ (DataW.weightsEach Tryd.prog ts r).all p = true := by
  rw [DataW.weightsEach, List.all_append, Bool.and_eq_true] at h; exact h
theorem weight_string {H : Type} {s : ByteArray} (h : (DataW.weights Tryd.prog 9 (.lit (.string s.data.toList) : DataW H)).all (· ≤ reachBytes) = true) : s.size ≤ 140737488351232 := by
  rw [DataW.weights, List.all_cons, Bool.and_eq_true, decide_eq_true_eq, reach_eq, Array.length_toList] at h
  exact h.1
theorem laid_out : laidOutB Tryd.prog = true := by kernel_rfl
end Go.Proofs.YtcnfbdabbnhjlaaDoor
namespace Go.Proofs.YtcnfbdabbnhjlaaDoor
open Go.ChangeShapes Go.WideShapes Go.ChangeAt Go.RowKit Go.Lib
set_option linter.unusedVariables false

section
variable {H : Type} {enc : TypeId × Value → H} {W : World} {sp : Nat → Bool} {held : Bool}
theorem open_strs {v : Value} {d : DataW H} {p : List MemPlace} (hv : v.cells.toList = [v]) (h : DataW.Trod enc Tryd.prog W 0 sp held 22 v d p) (hmax : maxLen ≤ 9223372036854775807) :
    ∃ (l : List (List UInt8)) (A : Option Addr) (c : Nat), v = .slice A l.length c ∧ l.length ≤ 9223372036854775807 ∧ StrO W A l := by
  obtain ⟨fuel, hf⟩ := h
  rw [hv] at hf
  rcases open_strings Tryd.underlying22 Tryd.underlying9 (by kernel_rfl) hf with ⟨hcs, _⟩ | ⟨a, len, cap, ss, hcs, _, hlc, hcm, hsl, _, hcell, _⟩
  · injection hcs with hcs _
    exact ⟨[], none, 0, hcs, by decide, .inl rfl⟩
  · injection hcs with hcs _
    have hle : len ≤ ss.length := by rw [hsl]; split <;> omega
    have hll : ((ss.take len).map (·.data.toList)).length = len := by rw [List.length_map, List.length_take]; omega
    refine ⟨(ss.take len).map (·.data.toList), some a, cap, by rw [hll]; exact hcs, by omega, ?_⟩
    by_cases h0 : len = 0
    · left; rw [h0]; rfl
    obtain ⟨b, o, spot⟩ := a
    have hc0 := hcell 0 (by omega)
    have hspot : spot = none := by simpa [Addr.add] using World.cell?_spot hc0
    subst hspot
    have hb : b < W.heap.size := by
      have h1 : (⟨b, o, none⟩ : Addr).add 0 = ⟨b, o, none⟩ := by unfold Addr.add; rfl
      rw [h1] at hc0
      unfold World.cell? at hc0
      rcases Nat.lt_or_ge b W.heap.size with hlt | hge
      · exact hlt
      · simp only [Array.getElem?_eq_none hge] at hc0; cases hc0
    refine .inr ⟨b, o, rfl, hb, fun j x hj => ?_⟩
    have hjl : j < len := by
      rcases Nat.lt_or_ge j len with hlt | hge
      · exact hlt
      · rw [List.getElem?_eq_none (by rw [hll]; exact hge)] at hj; cases hj
    have hg := hcell j (by omega)
    rw [Lib.add_plain] at hg
    rw [hg]
    rw [List.getElem?_map, List.getElem?_take_of_lt hjl] at hj
    rw [List.getD_eq_getElem?_getD]
    cases hq : ss[j]? with
    | none => rw [hq] at hj; cases hj
    | some y =>
      rw [hq] at hj
      injection hj with hj
      rw [← hj]
      show some (Value.string y) = some (.string ⟨y.data.toList.toArray⟩)
      cases y; simp
end
end Go.Proofs.YtcnfbdabbnhjlaaDoor
namespace Go.Proofs.YtcnfbdabbnhjlaaDoor
open Go.RowKit Go.Lib
set_option linter.unusedVariables false

/-- Are texts few and short? -/
def textsB (l : List (List UInt8)) (most long : Nat) : Bool := decide (l.length ≤ most) && l.all fun x => decide (x.length ≤ long)
set_option maxRecDepth 100000 in
set_option maxHeartbeats 1000000 in
theorem texts_c (A : Option Addr) (c : Nat) (l : List (List UInt8)) (most long : Nat) (w : World) (h : StrO w A l) (hm : most ≤ 1000000) (hlg : long ≤ 1000000) (hl : l.length ≤ 9223372036854775807) :
    Calls Tryd.prog 7 #[.slice A l.length c, .int .i64 (most : Int), .int .i64 (long : Int)] w fun e w' => e = .returned (.bool (textsB l most long)) ∧ w = w' := by
  obtain ⟨r, hr⟩ : ∃ r, r = textsB l most long := ⟨_, rfl⟩
  rw [← hr]
  have HR := Lib.hid hr
  have HH := Lib.hid h
  clear hr h
  by_cases hbig : most < l.length
  · have hd : (most : Int) < (l.length : Int) := by omega
    have HE := Lib.hid (show r = false by rw [HR.out]; unfold textsB; rw [decide_eq_false (by omega), Bool.false_and])
    go_enter Tryd.func7, Tryd.ntmps7
    go_wp2_with fail
    go_ret
    exact ⟨by rw [HE.out]; rfl, rfl⟩
  · have hd : ¬ (most : Int) < (l.length : Int) := by omega
    have hln : l.length ≤ 1000000 := by omega
    go_enter Tryd.func7, Tryd.ntmps7
    go_wp2_with fail
    go_loopg [7] l.length (fun kk iv wr => ∃ i : Nat, iv = .int .i64 (i : Int) ∧ i + kk = l.length ∧ w = wr ∧ Hid ((l.take i).all (fun x => decide (x.length ≤ long)) = true))
    case atStart => exact ⟨0, rfl, by omega, rfl, rfl⟩
    case round =>
      obtain ⟨i, rfl, hk, rfl, ha⟩ := hrel
      by_cases hi : i < l.length
      · obtain ⟨kk, rfl⟩ : ∃ kk, gk = kk + 1 := ⟨gk - 1, by omega⟩
        obtain ⟨x, hx⟩ : ∃ x, l[i]? = some x := ⟨_, List.getElem?_eq_getElem hi⟩
        obtain ⟨ga, oa, rfl, hga, hca⟩ : ∃ g o, A = some ⟨g, o, none⟩ ∧ g < w.heap.size ∧ ∀ j x, l[j]? = some x → w.cell? ⟨g, o + j, none⟩ = some (.string ⟨x.toArray⟩) := by
          rcases HH.out with h | h
          · rw [h] at hi; exact absurd hi (Nat.not_lt_zero _)
          · exact h
        have ca := hca i x hx
        obtain ⟨b, hb⟩ : ∃ b : ByteArray, b = ⟨x.toArray⟩ := ⟨_, rfl⟩
        have hbz : b.size = x.length := by rw [hb]; simp [ByteArray.size]
        rw [← hb] at ca
        have ht : l.take (i + 1) = l.take i ++ [x] := by
          rw [List.take_add_one, hx]; rfl
        have HBZ := Lib.hid hbz
        have HT := Lib.hid ht
        by_cases hxl : long < x.length
        · have hd2 : (long : Int) < (b.size : Int) := by omega
          have HE := Lib.hid (show r = false by
            rw [HR.out]; unfold textsB
            rw [Bool.and_eq_false_iff]
            right
            rw [List.all_eq_false]
            exact ⟨x, List.mem_of_getElem? hx, by rw [decide_eq_true_eq]; omega⟩)
          clear hca hx hb hbz ht ha
          go_wp2_with fail
          go_ret
          exact ⟨by rw [HE.out]; rfl, rfl⟩
        · have hd2 : ¬ (long : Int) < (b.size : Int) := by omega
          have HE := Lib.hid (show (l.take (i + 1)).all (fun x => decide (x.length ≤ long)) = true by
            rw [HT.out, List.all_append, ha.out, Bool.true_and, List.all_cons, decide_eq_true (by omega), Bool.true_and]; rfl)
          clear hca hx hb hbz ht ha
          go_wp2_with fail
          go_roundg kk
          case measure => omega
          case rel => exact ⟨i + 1, by go_num, by omega, rfl, HE.out⟩
      · have hge : ¬ (i : Int) < (l.length : Int) := by omega
        have HE := Lib.hid (show r = true by
          rw [HR.out]; unfold textsB
          have := ha.out
          rw [List.take_of_length_le (by omega)] at this
          rw [this, decide_eq_true (by omega)]; rfl)
        clear ha
        go_wp2_with fail
        go_ret
        exact ⟨by rw [HE.out]; rfl, rfl⟩

theorem escQ_app : ∀ a b, escQ (a ++ b) = escQ a ++ escQ b
  | [], b => rfl
  | c :: a, b => by
    rw [List.cons_append, escQ, escQ, escQ_app a b]
    split <;> rfl
theorem escQ_len : ∀ a, (escQ a).length ≤ 2 * a.length
  | [] => Nat.le_refl _
  | c :: a => by
    rw [escQ]
    have := escQ_len a
    split <;> simp <;> omega
theorem quoS_snoc (g : Nat) : ∀ (l : List (List UInt8)) (w : List UInt8), quoS g (l ++ [w]) = quoS g l ++ (List.replicate (g + 1) 32 ++ 34 :: (escQ w ++ [34]))
  | [], w => rfl
  | x :: l, w => by
    rw [List.cons_append, quoS, quoS, quoS_snoc g l w]
    simp [List.append_assoc]
theorem quotes_head (g : Nat) (l : List (List UInt8)) : (cmdHead (say0 ++ quoS g l)).1 = say0 ∧ (cmdHead (say0 ++ quoS g l)).2.2 = l := by
  have ht : Lib.trimLeftB (say0 ++ quoS g l) 32 = say0 ++ quoS g l := by
    show List.dropWhile (· == 32) (115 :: ([97, 121, 48] ++ quoS g l)) = _
    rw [List.dropWhile_cons, if_neg (by decide)]
    rfl
  have hs : shortL (say0 ++ quoS g l) = [] := rfl
  have hq := quotes_p g l (say0 ++ quoS g l).length
  unfold cmdHead
  simp only [ht, hs]
  rw [if_neg (by simp)]
  rw [hq]
  exact ⟨rfl, rfl⟩

set_option maxRecDepth 100000 in
set_option maxHeartbeats 4000000 in
theorem cmdQuotes_c (l : List (List UInt8)) (A : Option Addr) (cap : Nat) (gap : Int) (ea : Nat → Addr) (w : World) (hln : l.length ≤ 9223372036854775807) (h : StrO w A l) (hs0 : -9223372036854775808 ≤ gap) (hs1 : gap ≤ 9223372036854775807) (he : ErrsAt w ea) (ht : SpaceAt w) :
    Calls Tryd.prog 3 #[.slice A l.length cap, .int .i64 gap] w fun e w' => e = .returned (.bool true) ∧ Below w.heap.size w w' := by
  have hroom := he.room
  have F := Lib.hid (cfirst_c ea w he ht)
  have NA := Lib.hid (fun W => wnumber_e gap 3 W hs0 hs1 (by decide) (by decide))
  obtain ⟨g, hg, hg3⟩ : ∃ g : Nat, g = (gap % ((3 : Nat) : Int)).toNat ∧ g < 3 := ⟨_, rfl, by omega⟩
  rw [← hg] at NA
  have TX := Lib.hid (fun (W : World) (hW : Below w.heap.size w W) => texts_c A cap l 8 20 W (h.below hW) (by decide) (by decide) hln)
  have HH := Lib.hid (fun (W : World) (hW : Below w.heap.size w W) => h.below hW)
  have PC := Lib.hid (fun (W : World) (hW : Below w.heap.size w W) (t : ByteArray) (ht_ : t.size ≤ 10000) => parse_c t none 0 0 0 0 obN W (space_below ht hW hroom) (by have := hW.size; omega) (obN_c (he.below hW (by omega))) ht_)
  clear hg he ht h
  cases htb : textsB l 8 20 with
  | false =>
    rw [htb] at TX
    clear htb
    go_enter Tryd.func3, Tryd.ntmps3
    go_wp2_with fail
    refine F.out.mono ?_
    rintro e w2 ⟨rfl, hb2⟩
    have HB2 := Lib.hid hb2
    clear hb2
    go_wp2_with fail
    refine (TX.out _ HB2.out).mono ?_
    rintro e w3 ⟨rfl, rfl⟩
    go_wp2_with fail
    go_ret
    exact ⟨rfl, HB2.out⟩
  | true =>
    rw [htb] at TX
    unfold textsB at htb
    rw [Bool.and_eq_true, decide_eq_true_eq, List.all_eq_true] at htb
    obtain ⟨hl8, hall⟩ := htb
    have HALL := Lib.hid (fun x (hx : x ∈ l) => of_decide_eq_true (hall x hx))
    clear hall hln
    go_enter Tryd.func3, Tryd.ntmps3
    go_wp2_with fail
    refine F.out.mono ?_
    rintro e w2 ⟨rfl, hb2⟩
    have HB2 := Lib.hid hb2
    clear hb2
    go_wp2_with fail
    refine (TX.out _ HB2.out).mono ?_
    rintro e w3 ⟨rfl, rfl⟩
    go_wp2_with fail
    go_loopg [6, 7, 8, 9] l.length (fun kk sv iv k1 k2 wr => ∃ (S : ByteArray) (i : Nat), sv = .string S ∧ iv = .int .i64 (i : Int) ∧ i + kk = l.length ∧ w2 = wr ∧ S.size ≤ 4 + 45 * i ∧ Hid (S.data.toList = say0 ++ quoS g (l.take i)))
    case atStart => exact ⟨⟨say0.toArray⟩, 0, rfl, rfl, by omega, rfl, by decide, rfl⟩
    case round =>
      obtain ⟨S, i, rfl, rfl, hk, rfl, hsz, hS⟩ := hrel
      by_cases hi : i < l.length
      · obtain ⟨kk, rfl⟩ : ∃ kk, gk = kk + 1 := ⟨gk - 1, by omega⟩
        obtain ⟨x, hx⟩ : ∃ x, l[i]? = some x := ⟨_, List.getElem?_eq_getElem hi⟩
        obtain ⟨ga, oa, rfl, hga, hca⟩ : ∃ g o, A = some ⟨g, o, none⟩ ∧ g < w2.heap.size ∧ ∀ j x, l[j]? = some x → w2.cell? ⟨g, o + j, none⟩ = some (.string ⟨x.toArray⟩) := by
          rcases HH.out w2 HB2.out with h | h
          · rw [h] at hi; exact absurd hi (Nat.not_lt_zero _)
          · exact h
        have ca := hca i x hx
        obtain ⟨b, hb⟩ : ∃ b : ByteArray, b = ⟨x.toArray⟩ := ⟨_, rfl⟩
        have hbl : b.data.toList = x := by rw [hb]
        have hbz : b.size ≤ 20 := by rw [size_listE, hbl]; exact HALL.out x (List.mem_of_getElem? hx)
        rw [← hb] at ca
        have HT := Lib.hid (show l.take (i + 1) = l.take i ++ [b.data.toList] by rw [hbl, List.take_add_one, hx]; rfl)
        clear hca hx hb hbl
        go_wp2_with fail
        go_loopg [6, 8] (g + 1) (fun kq sv kv wr => ∃ (P : ByteArray) (j : Nat), sv = .string P ∧ kv = .int .i64 (j : Int) ∧ j + kq = g + 1 ∧ w2 = wr ∧ P.size ≤ 4 + 45 * i + j ∧ Hid (P.data.toList = S.data.toList ++ List.replicate j 32))
        case atStart => exact ⟨S, 0, rfl, rfl, by omega, rfl, by omega, by show _ = _; simp⟩
        case round =>
          obtain ⟨P, j, rfl, rfl, hkq, rfl, hpz, hP⟩ := hrel
          by_cases hj : j ≤ g
          · obtain ⟨kq, rfl⟩ : ∃ kq', gk = kq' + 1 := ⟨gk - 1, by omega⟩
            have HP := Lib.hid (show (P ++ (⟨#[32]⟩ : ByteArray)).data.toList = S.data.toList ++ List.replicate (j + 1) 32 by
              rw [ByteArray.data_append, Array.toList_append, hP.out, List.replicate_succ', List.append_assoc])
            have hpz2 : (P ++ (⟨#[32]⟩ : ByteArray)).size ≤ 4 + 45 * i + (j + 1) := by rw [ByteArray.size_append]; show P.size + 1 ≤ _; omega
            have HPZ := Lib.hid hpz2
            have hjI : (j : Int) ≤ (g : Int) := by omega
            clear hP hpz2
            go_wp2_with fail
            refine (NA.out _).mono ?_
            rintro e w3 ⟨rfl, rfl⟩
            go_wp2_with fail
            go_roundg kq
            case measure => omega
            case rel => exact ⟨_, j + 1, rfl, by go_num, by omega, rfl, HPZ.out, HP.out⟩
          · obtain rfl : j = g + 1 := by omega
            have hjI : ¬ ((g + 1 : Nat) : Int) ≤ (g : Int) := by omega
            obtain ⟨Q, hQ⟩ : ∃ Q : ByteArray, Q = P ++ (⟨#[34]⟩ : ByteArray) := ⟨_, rfl⟩
            have HQL := Lib.hid (show Q.data.toList = S.data.toList ++ (List.replicate (g + 1) 32 ++ [34]) by
              rw [hQ, ByteArray.data_append, Array.toList_append, hP.out, List.append_assoc])
            have hqz : Q.size ≤ 4 + 45 * i + (g + 2) := by rw [hQ, ByteArray.size_append]; show P.size + 1 ≤ _; omega
            have HQ := Lib.hid hQ
            clear hP hQ hkq
            go_wp2_with fail
            refine (NA.out _).mono ?_
            rintro e w3 ⟨rfl, rfl⟩
            go_wp2_with fail
            rw [← HQ.out]
            go_loopg [6, 9] b.size (fun kq sv kv wr => ∃ (P : ByteArray) (j : Nat), sv = .string P ∧ kv = .int .i64 (j : Int) ∧ j + kq = b.size ∧ w2 = wr ∧ P.size ≤ 4 + 45 * i + (g + 2) + 2 * j ∧ Hid (P.data.toList = Q.data.toList ++ escQ (b.data.toList.take j)))
            case atStart => exact ⟨Q, 0, rfl, rfl, by omega, rfl, by omega, by show _ = _; simp [escQ]⟩
            case round =>
              obtain ⟨P, j, rfl, rfl, hkq, rfl, hpz, hP⟩ := hrel
              by_cases hj : j < b.size
              · obtain ⟨kq, rfl⟩ : ∃ kq', gk = kq' + 1 := ⟨gk - 1, by omega⟩
                have hx1 : b.extract j (j + 1) = ⟨#[b[j]]⟩ := by
                  apply ByteArray.ext
                  apply Array.ext'
                  rw [ByteArray.data_extract, Array.toList_extract, List.extract_eq_take_drop, drop_cons b j hj]
                  simp
                have hts : b.data.toList.take (j + 1) = b.data.toList.take j ++ [b[j]] := take_snoc b j hj
                have hjI : (j : Int) < (b.size : Int) := by omega
                by_cases h34 : b[j] = 34
                · have t1 : ((b[j].toNat : Int) == 34) = true := by rw [h34]; rfl
                  have HP := Lib.hid (show (P ++ (⟨#[92]⟩ : ByteArray) ++ b.extract j (j + 1)).data.toList = Q.data.toList ++ escQ (b.data.toList.take (j + 1)) by
                    rw [ByteArray.data_append, ByteArray.data_append, Array.toList_append, Array.toList_append, hP.out, hx1, hts, escQ_app, escQ, if_pos (Or.inl h34)]
                    simp [escQ, List.append_assoc])
                  have hpz2 : (P ++ (⟨#[92]⟩ : ByteArray) ++ b.extract j (j + 1)).size ≤ 4 + 45 * i + (g + 2) + 2 * (j + 1) := by
                    rw [ByteArray.size_append, ByteArray.size_append, hx1, show (⟨#[92]⟩ : ByteArray).size = 1 from rfl, show (⟨#[b[j]]⟩ : ByteArray).size = 1 from rfl]; omega
                  have HPZ := Lib.hid hpz2
                  clear hP hpz2 hx1 hts h34
                  go_wp2_with fail
                  go_roundg kq
                  case measure => omega
                  case rel => exact ⟨_, j + 1, rfl, by go_num, by omega, rfl, HPZ.out, HP.out⟩
                · obtain ⟨t1, t1'⟩ := ne_byte (x := b[j]) 34 34 rfl h34
                  by_cases h92 : b[j] = 92
                  · have t2 : ((b[j].toNat : Int) == 92) = true := by rw [h92]; rfl
                    have HP := Lib.hid (show (P ++ (⟨#[92]⟩ : ByteArray) ++ b.extract j (j + 1)).data.toList = Q.data.toList ++ escQ (b.data.toList.take (j + 1)) by
                      rw [ByteArray.data_append, ByteArray.data_append, Array.toList_append, Array.toList_append, hP.out, hx1, hts, escQ_app, escQ, if_pos (Or.inr h92)]
                      simp [escQ, List.append_assoc])
                    have hpz2 : (P ++ (⟨#[92]⟩ : ByteArray) ++ b.extract j (j + 1)).size ≤ 4 + 45 * i + (g + 2) + 2 * (j + 1) := by
                      rw [ByteArray.size_append, ByteArray.size_append, hx1, show (⟨#[92]⟩ : ByteArray).size = 1 from rfl, show (⟨#[b[j]]⟩ : ByteArray).size = 1 from rfl]; omega
                    have HPZ := Lib.hid hpz2
                    clear hP hpz2 hx1 hts h34 h92
                    go_wp2_with fail
                    go_roundg kq
                    case measure => omega
                    case rel => exact ⟨_, j + 1, rfl, by go_num, by omega, rfl, HPZ.out, HP.out⟩
                  · obtain ⟨t2, t2'⟩ := ne_byte (x := b[j]) 92 92 rfl h92
                    have HP := Lib.hid (show (P ++ b.extract j (j + 1)).data.toList = Q.data.toList ++ escQ (b.data.toList.take (j + 1)) by
                      rw [ByteArray.data_append, Array.toList_append, hP.out, hx1, hts, escQ_app, escQ, if_neg (fun h => h.elim h34 h92)]
                      simp [escQ, List.append_assoc])
                    have hpz2 : (P ++ b.extract j (j + 1)).size ≤ 4 + 45 * i + (g + 2) + 2 * (j + 1) := by
                      rw [ByteArray.size_append, hx1, show (⟨#[b[j]]⟩ : ByteArray).size = 1 from rfl]; omega
                    have HPZ := Lib.hid hpz2
                    clear hP hpz2 hx1 hts h34 h92
                    go_wp2_with fail
                    go_roundg kq
                    case measure => omega
                    case rel => exact ⟨_, j + 1, rfl, by go_num, by omega, rfl, HPZ.out, HP.out⟩
              · obtain rfl : j = b.size := by omega
                have hjI : ¬ (b.size : Int) < (b.size : Int) := by omega
                have hel := escQ_len b.data.toList
                have hbt : b.data.toList.take b.size = b.data.toList := List.take_of_length_le (by rw [← size_listE]; exact Nat.le_refl _)
                have HP := Lib.hid (show (P ++ (⟨#[34]⟩ : ByteArray)).data.toList = say0 ++ quoS g (l.take (i + 1)) by
                  rw [ByteArray.data_append, Array.toList_append, hP.out, HT.out, quoS_snoc, HQL.out, hS.out, hbt]
                  simp [List.append_assoc])
                have hpz2 : (P ++ (⟨#[34]⟩ : ByteArray)).size ≤ 4 + 45 * (i + 1) := by
                  rw [ByteArray.size_append, show (⟨#[34]⟩ : ByteArray).size = 1 from rfl]; omega
                have HPZ := Lib.hid hpz2
                clear hP hpz2 hel hS hbt
                go_wp2_with fail
                go_roundg kk
                case measure => omega
                case rel => exact ⟨_, i + 1, rfl, by go_num, by omega, rfl, HPZ.out, HP.out⟩
      · have hge : ¬ (i : Int) < (l.length : Int) := by omega
        have HSE := Lib.hid (show S.data.toList = say0 ++ quoS g l by
          have := hS.out; rwa [List.take_of_length_le (by omega)] at this)
        have HD := Lib.hid (show (⟨(cmdHead S.data.toList).1.toArray⟩ : ByteArray) = ⟨say0.toArray⟩ ∧ (cmdHead S.data.toList).2.2 = l by
          rw [HSE.out]; obtain ⟨q1, q2⟩ := quotes_head g l; rw [q1, q2]; exact ⟨rfl, rfl⟩)
        have HPC := Lib.hid (fun W hW => by
          have := PC.out W hW S (by omega)
          unfold CmdOut at this
          rw [HD.out.1, HD.out.2] at this
          exact this)
        clear hS PC
        go_wp2_with fail
        refine (HPC.out _ HB2.out).mono ?_
        rintro e w4 ⟨A', c', rfl, hc', hst, hb4⟩
        have HST := Lib.hid hst
        have HB4 := Lib.hid (HB2.out.trans (below_le' hb4 HB2.out.size))
        clear hb4 hst
        go_wp2_with fail
        refine (sameT_c A' A c' cap l _ ?_ ?_ (by omega)).mono ?_
        · exact HST.out.below ((Below.refl _ _).alloc (Nat.le_refl _) _)
        · exact (HH.out _ HB4.out).below ((Below.refl _ _).alloc (Nat.le_refl _) _)
        rintro e w5 ⟨rfl, n5, rfl⟩
        go_wp2_with fail
        go_ret
        exact ⟨rfl, below_drewN (HB4.out.alloc HB4.out.size _) n5⟩
end Go.Proofs.YtcnfbdabbnhjlaaDoor
