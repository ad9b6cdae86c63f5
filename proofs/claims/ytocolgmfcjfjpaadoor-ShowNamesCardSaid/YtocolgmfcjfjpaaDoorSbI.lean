/- Contracts of the functions that the statement reaches, and the plain mathematics beneath: several texts joined. -/
import Derived.Test.YtocolgmfcjfjpaaDoorSbH
import Derived.Test.YtocolgmfcjfjpaaDoorSbC
import Derived.Carry
import Derived.Test.YtocolgmfcjfjpaaDoorSbA
import Derived.Test.YtocolgmfcjfjpaaDoorSbB
import Derived.Test.YtocolgmfcjfjpaaDoorSbD
import Derived.Test.YtocolgmfcjfjpaaDoorSbE
import Derived.Test.YtocolgmfcjfjpaaDoorSbF
import Derived.Test.YtocolgmfcjfjpaaDoorSbG
namespace Go.Proofs.YtocolgmfcjfjpaaDoor
open Go.ChangeShapes Go.WideShapes Go.ChangeAt Go.RowKit Go.Lib
set_option linter.unusedVariables false

theorem reach_eq : reachBytes = 140737488351232 := by unfold reachBytes; decide
theorem list4 {α : Type} {l : List α} (h : l.length = 4) : ∃ a b c d, l = [a, b, c, d] := by
  match l, h with
  | [a, b, c, d], _ => exact ⟨a, b, c, d, rfl⟩
theorem cells_value : Tryd.prog.cellsOf 26 = 4 := by kernel_rfl
theorem cells_int : Tryd.prog.cellsOf 3 = 1 := by kernel_rfl
theorem cells_int64 : Tryd.prog.cellsOf 2 = 1 := by kernel_rfl
theorem cells_string : Tryd.prog.cellsOf 9 = 1 := by kernel_rfl
theorem cells_values : Tryd.prog.cellsOf 24 = 1 := by kernel_rfl
theorem bytes_value : Tryd.prog.bytesOf 26 = 56 := by kernel_rfl

section
variable {H : Type} {enc : TypeId × Value → H} {W : World} {sp : Nat → Bool} {held : Bool}

theorem trod_val {n : Nat} {cs : List Value} {x : DataW H × List MemPlace} (h : DataW.trod enc Tryd.prog W 0 sp held n 26 cs = some x) :
    ∃ (m : Nat) (k i : Int) (s : ByteArray) (sl : Value) (y : DataW H × List MemPlace), n = m + 1 ∧ cs = [.int .i64 k, .int .i64 i, .string s, sl] ∧ x.1 = .agg [.lit (.int .i64 k), .lit (.int .i64 i), .lit (.string s.data.toList), y.1] ∧
      (-9223372036854775808 ≤ i ∧ i ≤ 9223372036854775807) ∧ DataW.trod enc Tryd.prog W 0 sp held m 24 [sl] = some y := by
  obtain ⟨xs, m, rfl, rfl, hl, hlen, hf⟩ := DataW.trod_struct Tryd.underlying26 h
  rw [cells_value] at hl
  obtain ⟨c0, c1, c2, c3, rfl⟩ := list4 hl
  obtain ⟨y0, y1, y2, y3, rfl⟩ := list4 hlen
  have h0 : DataW.trod enc Tryd.prog W 0 sp held m 3 [c0] = some y0 := by simpa [cells_int] using hf 0 _ rfl
  have h1 : DataW.trod enc Tryd.prog W 0 sp held m 2 [c1] = some y1 := by simpa [cells_int64] using hf 1 _ rfl
  have h2 : DataW.trod enc Tryd.prog W 0 sp held m 9 [c2] = some y2 := by simpa [cells_string] using hf 2 _ rfl
  have h3 : DataW.trod enc Tryd.prog W 0 sp held m 24 [c3] = some y3 := by simpa [cells_values] using hf 3 _ rfl
  obtain ⟨k, e0, rfl, w0⟩ := DataW.trod_int Tryd.underlying3 h0
  obtain ⟨i, e1, rfl, w1⟩ := DataW.trod_int Tryd.underlying2 h1
  obtain ⟨s, e2, rfl, w2⟩ := DataW.trod_string Tryd.underlying9 h2
  injection e0 with e0 _
  injection e1 with e1 _
  injection e2 with e2 _
  subst e0; subst e1; subst e2
  exact ⟨m, k, i, s, c3, y3, rfl, rfl, rfl, i64_range w1, h3⟩

theorem weights_value (k i : Int) (l : List UInt8) (d : DataW H) : DataW.weights Tryd.prog 26 (.agg [.lit (.int .i64 k), .lit (.int .i64 i), .lit (.string l), d]) = l.length :: DataW.weights Tryd.prog 24 d := by
  conv => lhs; unfold DataW.weights
  rw [Tryd.underlying26]
  simp [DataW.weightsEach, DataW.weights]
theorem weights_values (es r : List (DataW H)) : DataW.weights Tryd.prog 24 (.slice es r) = (es.length + r.length) * 56 :: (DataW.weightsAll Tryd.prog 26 es ++ DataW.weightsAll Tryd.prog 26 r) := by
  conv => lhs; unfold DataW.weights
  rw [Tryd.underlying24]
  simp only [bytes_value]
theorem weightsAll_cons (d : DataW H) (r : List (DataW H)) (t : TypeId) : DataW.weightsAll Tryd.prog t (d :: r) = DataW.weights Tryd.prog t d ++ DataW.weightsAll Tryd.prog t r := by rw [DataW.weightsAll]

/-- What comes of a value's reading. -/
def OpenV (W : World) (cs : List Value) : Prop := ∃ (k i : Int) (s : ByteArray) (sub : VL) (sa : Option Addr) (sc : Nat), cs = [.int .i64 k, .int .i64 i, .string s, .slice sa sub.len sc] ∧ (val1 k i s sub).fit ∧ (val1 k i s sub).i64 ∧ sub.len ≤ sc ∧ RpL W (fun b => b < W.heap.size) sub sa
/-- What comes of a list's reading. -/
def OpenL (W : World) (v : Value) : Prop := ∃ (sub : VL) (sa : Option Addr) (sc : Nat), v = .slice sa sub.len sc ∧ sub.fit ∧ sub.i64 ∧ sub.len ≤ 140737488351232 ∧ sub.len ≤ sc ∧ RpL W (fun b => b < W.heap.size) sub sa

theorem open_items {W : World} {m : Nat} (ih : ∀ (cs : List Value) (x : DataW H × List MemPlace), DataW.trod enc Tryd.prog W 0 sp held m 26 cs = some x → (DataW.weights Tryd.prog 26 x.1).all (· ≤ reachBytes) = true → OpenV W cs) (b o : Nat) :
    ∀ (es : List (DataW H × List MemPlace)) (j : Nat), (∀ i, i < es.length → (W.cells? 0 ((⟨b, o, none⟩ : Addr).add ((j + i) * 4)) 4).bind (DataW.trod enc Tryd.prog W 0 sp held m 26) = es[i]?) → (DataW.weightsAll Tryd.prog 26 (es.map (·.1))).all (· ≤ reachBytes) = true →
      ∃ sub : VL, sub.len = es.length ∧ sub.fit ∧ sub.i64 ∧ RpL W (fun b => b < W.heap.size) sub (some ⟨b, o + 4 * j, none⟩)
  | [], j, _, _ => ⟨.nil, rfl, trivial, trivial, trivial⟩
  | e :: r, j, hel, hw => by
    have h0 := hel 0 (by simp)
    rw [Nat.add_zero, List.getElem?_cons_zero, Option.bind_eq_some_iff] at h0
    obtain ⟨cs, hcs, ht⟩ := h0
    rw [List.map_cons, weightsAll_cons, List.all_append, Bool.and_eq_true] at hw
    obtain ⟨k, i, s, sub, sa, sc, rfl, hfit, h64, hsc, hrep⟩ := ih cs e ht hw.1
    obtain ⟨rest, hrl, hrf, hr6, hrr⟩ := open_items ih b o r (j + 1) (fun i hi => by
      have := hel (i + 1) (by simp; omega)
      rw [List.getElem?_cons_succ, show j + (i + 1) = j + 1 + i by omega] at this
      exact this) hw.2
    obtain ⟨_, _, hcell⟩ := World.cells?_some hcs
    have ha : ∀ q, q < 4 → W.cell? ⟨b, o + 4 * j + q, none⟩ = ([.int .i64 k, .int .i64 i, .string s, .slice sa sub.len sc] : List Value)[q]? := fun q hq => by
      have := hcell q hq
      rw [show (((⟨b, o, none⟩ : Addr).add (j * 4)).add q) = ⟨b, o + 4 * j + q, none⟩ by
        rw [Lib.add_plain, Lib.add_plain, Nat.mul_comm]] at this
      exact this
    have hb : b < W.heap.size := by
      have h0 := ha 0 (by omega)
      unfold World.cell? at h0
      rcases Nat.lt_or_ge b W.heap.size with hlt | hge
      · exact hlt
      · simp only [Array.getElem?_eq_none hge] at h0; cases h0
    refine ⟨.cons k i s sub rest, by rw [VL.len, hrl, List.length_cons], ⟨hfit.1, hfit.2.1, hfit.2.2.1, hrf⟩, ⟨h64.1, h64.2.1, h64.2.2.1, hr6⟩, b, o + 4 * j, sa, sc, rfl, hb, ha 0 (by omega), ha 1 (by omega), ha 2 (by omega), ha 3 (by omega), hsc, hrep, ?_⟩
    rw [show o + 4 * j + 4 = o + 4 * (j + 1) by omega]
    exact hrr

set_option maxRecDepth 100000 in
theorem open_list {W : World} {m : Nat} (ih : ∀ m', m' < m → ∀ (cs : List Value) (x : DataW H × List MemPlace), DataW.trod enc Tryd.prog W 0 sp held m' 26 cs = some x → (DataW.weights Tryd.prog 26 x.1).all (· ≤ reachBytes) = true → OpenV W cs) {v : Value} {y : DataW H × List MemPlace}
    (h : DataW.trod enc Tryd.prog W 0 sp held m 24 [v] = some y) (hw : (DataW.weights Tryd.prog 24 y.1).all (· ≤ reachBytes) = true) : OpenL W v := by
  rcases DataW.trod_slice Tryd.underlying24 h with ⟨hcs, rfl⟩ | ⟨a, len, cap, elems, rest, n, rfl, hcs, rfl, _, hlc, _, hlen, hel, _, _⟩
  · injection hcs with hcs _
    exact ⟨.nil, none, 0, hcs, trivial, trivial, by decide, Nat.le_refl _, trivial⟩
  · injection hcs with hcs _
    subst hcs
    simp only [weights_values, List.all_cons, List.all_append, Bool.and_eq_true, decide_eq_true_eq, List.length_map] at hw
    obtain ⟨hw1, hw2, _⟩ := hw
    have hrb := reach_eq
    rw [hrb] at hw1
    by_cases h0 : len = 0
    · subst h0
      exact ⟨.nil, some a, cap, rfl, trivial, trivial, by decide, Nat.zero_le _, trivial⟩
    obtain ⟨b, o, spot⟩ := a
    have hspot : spot = none := by
      have e0 := hel 0 (by omega)
      have : ∃ y0, elems[0]? = some y0 := ⟨elems[0], List.getElem?_eq_getElem (by omega)⟩
      obtain ⟨y0, hy0⟩ := this
      rw [hy0, Option.bind_eq_some_iff] at e0
      obtain ⟨cs, hcs, _⟩ := e0
      rw [cells_value] at hcs
      obtain ⟨_, hl4, hcell⟩ := World.cells?_some hcs
      have g0 := hcell 0 (by omega)
      rw [List.getElem?_eq_getElem (by omega)] at g0
      simpa [Addr.add] using World.cell?_spot g0
    subst hspot
    obtain ⟨sub, hsl, hsf, hs6, hrep⟩ := open_items (ih n (by omega)) b o elems 0 (fun i hi => by
      have := hel i (by omega)
      rw [cells_value] at this
      rw [Nat.zero_add]; exact this) hw2
    rw [hlen] at hsl
    refine ⟨sub, some ⟨b, o, none⟩, cap, by rw [hsl], hsf, hs6, by omega, by omega, ?_⟩
    rw [show o = o + 4 * 0 by omega]; exact hrep

theorem open_val {W : World} : ∀ (n : Nat) (cs : List Value) (x : DataW H × List MemPlace), DataW.trod enc Tryd.prog W 0 sp held n 26 cs = some x → (DataW.weights Tryd.prog 26 x.1).all (· ≤ reachBytes) = true → OpenV W cs := by
  intro n
  induction n using Nat.strongRecOn with
  | _ n ih =>
    intro cs x h hw
    obtain ⟨m, k, i, s, sl, y, rfl, rfl, hx, hi, hy⟩ := trod_val h
    rw [hx, weights_value, List.all_cons, Bool.and_eq_true, decide_eq_true_eq] at hw
    have hrb := reach_eq
    rw [hrb] at hw
    have hs : s.data.toList.length = s.size := by rw [Array.length_toList]; rfl
    obtain ⟨sub, sa, sc, rfl, hsf, hs6, hsl, hsc, hrep⟩ := open_list (m := m) (fun m' hm' => ih m' (by omega)) hy (by rw [hrb]; exact hw.2)
    exact ⟨k, i, s, sub, sa, sc, rfl, ⟨by omega, hsl, hsf, trivial⟩, ⟨hi.1, hi.2, hs6, trivial⟩, hsc, hrep⟩
end

section
variable {H : Type} {enc : TypeId × Value → H} {W : World} {sp : Nat → Bool} {held : Bool}
set_option maxRecDepth 100000 in
/-- A value that was handed in. -/
theorem open_value {r : Reach} {b0 : Nat} {v : Value} {d : DataW H} {p : List MemPlace} (hv : Value.okWide Tryd.prog W r b0 26 v) (h : DataW.Trod enc Tryd.prog W 0 sp held 26 v d p)
    (hw : (DataW.weights Tryd.prog 26 d).all (· ≤ reachBytes) = true) :
    ∃ (k n : Int) (s : ByteArray) (sub : VL) (sa : Option Addr) (sc : Nat), v = .agg #[.int .i64 k, .int .i64 n, .string s, .slice sa sub.len sc] ∧ (val1 k n s sub).fit ∧ (val1 k n s sub).i64 ∧ sub.len ≤ sc ∧ RpL W (fun b => b < W.heap.size) sub sa := by
  obtain ⟨cs, rfl, _⟩ := okWide_struct Tryd.underlying26 hv
  obtain ⟨fuel, hf⟩ := h
  obtain ⟨k, n, s, sub, sa, sc, hcs, rest⟩ := open_val fuel _ _ hf hw
  refine ⟨k, n, s, sub, sa, sc, ?_, rest⟩
  rw [← Array.toArray_toList (xs := cs)]
  exact congrArg (fun l : List Value => Value.agg l.toArray) hcs
theorem open_values {d : DataW H} {v : Value} {p : List MemPlace} (hv : v.cells.toList = [v]) (h : DataW.Trod enc Tryd.prog W 0 sp held 24 v d p)
    (hw : (DataW.weights Tryd.prog 24 d).all (· ≤ reachBytes) = true) : OpenL W v := by
  obtain ⟨fuel, hf⟩ := h
  rw [hv] at hf
  exact open_list (m := fuel) (fun m' _ => open_val m') hf hw
end

set_option maxRecDepth 100000 in
theorem cells_slice {W : World} {r : Reach} {b0 : Nat} {t e : TypeId} {v : Value} (ht : Tryd.prog.underlying t = some (.slice e)) (h : Value.okWide Tryd.prog W r b0 t v) : v.cells.toList = [v] := by
  obtain ⟨a, len, cap, rfl⟩ := okWide_slice ht h
  rfl
theorem weights_head {H : Type} {t : TypeId} {ts : List TypeId} {d : DataW H} {r : List (DataW H)} {p : Nat → Bool} (h : (DataW.weightsEach Tryd.prog (t :: ts) (d :: r)).all p = true) : (DataW.weights Tryd.prog t d).all p = true ∧ (DataW.weightsEach Tryd.prog ts r).all p = true := by
  rw [DataW.weightsEach, List.all_append, Bool.and_eq_true] at h; exact h
theorem weight_string {H : Type} {s : ByteArray} (h : (DataW.weights Tryd.prog 9 (.lit (.string s.data.toList) : DataW H)).all (· ≤ reachBytes) = true) : s.size ≤ 140737488351232 := by
  rw [DataW.weights, List.all_cons, Bool.and_eq_true, decide_eq_true_eq, reach_eq, Array.length_toList] at h
  exact h.1
theorem laid_out : laidOutB Tryd.prog = true := by kernel_rfl
end Go.Proofs.YtocolgmfcjfjpaaDoor
