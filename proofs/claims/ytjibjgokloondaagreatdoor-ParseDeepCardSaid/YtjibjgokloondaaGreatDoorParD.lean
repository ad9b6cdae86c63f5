/- Contracts of the functions that the statement reaches, and the plain mathematics beneath: several texts joined. -/
import Derived.Test.YtjibjgokloondaaGreatDoorParC
import Derived.Laws.ResultCell
import Derived.Deep.AppendLies
import Derived.Maps.AppendAt
import Derived.Test.YtjibjgokloondaaGreatDoorParA
import Derived.Test.YtjibjgokloondaaGreatDoorParB
namespace Go.Proofs.YtjibjgokloondaaGreatDoor
open Go.RowKit Go.Lib
set_option linter.unusedVariables false

theorem VL.fit_app : ∀ a b : VL, a.fit → b.fit → (a.app b).fit
  | .nil, b, _, h => h
  | .cons _ _ _ _ r, b, h, h2 => ⟨h.1, h.2.1, h.2.2.1, VL.fit_app r b h.2.2.2 h2⟩

theorem strLoop_len (s : ByteArray) : ∀ (f i : Nat) (l : List UInt8), i ≤ s.size → l.length ≤ i → (strLoop s f i l).2.2.length ≤ (strLoop s f i l).1
  | 0, i, l, _, h => h
  | f + 1, i, l, hi, h => by
    by_cases h34 : pk s i = 34
    · rw [strLoop_end _ _ _ _ h34]; exact h
    by_cases h92 : pk s i = 92
    · by_cases hy : pk s (i + 1) = 34 ∨ pk s (i + 1) = 92
      · have hi2 : i + 1 < s.size := pk_lt (by rcases hy with e | e <;> rw [e] <;> decide)
        rw [strLoop_esc _ _ _ _ h92 hy]
        exact strLoop_len s f (i + 2) _ (by omega) (by simp; omega)
      · rw [strLoop_esc_bad _ _ _ _ h92 hy]; simp only; omega
    cases hp : prC (pk s i) with
    | false => rw [strLoop_bad _ _ _ _ h34 h92 hp]; exact h
    | true =>
      have hi2 : i < s.size := pk_lt (fun e => by rw [e] at hp; exact absurd hp (by decide))
      rw [strLoop_next _ _ _ _ h34 h92 hp]
      exact strLoop_len s f (i + 1) _ (by omega) (by simp; omega)

theorem strSp_len (s : ByteArray) (i : Nat) (h : i < s.size) : (strSp s i).2.2.length ≤ s.size := by
  have h1 := strLoop_len s (s.size + 1) (i + 1) [] (by omega) (by simp)
  have h2 := strLoop_place s (s.size + 1) (i + 1) [] (by omega)
  unfold strSp
  simp only
  omega

theorem val1_fit {k n : Int} {t : ByteArray} {sub : VL} (h1 : t.size ≤ 140737488351232) (h2 : sub.len ≤ 140737488351232) (h3 : sub.fit) : (val1 k n t sub).fit := ⟨h1, h2, h3, trivial⟩

mutual
theorem valSp_fit (s : ByteArray) (hs : s.size ≤ 1000000000) : ∀ (f i : Nat), i ≤ s.size → (valSp s f i).2.2.fit
  | 0, i, h => by rw [valSp]; trivial
  | f + 1, i, h => by
    rw [valSp]
    split
    · exact val1_fit (by decide) (by decide) trivial
    · split
      · exact val1_fit (by decide) (by decide) trivial
      · split
        · rename_i e
          have := strSp_len s i (pk_lt (by rw [e]; decide))
          refine val1_fit ?_ (by decide) trivial
          show ((strSp s i).2.2.toArray).size ≤ _
          rw [List.size_toArray]; omega
        · split
          · rename_i e
            have hi : i < s.size := pk_lt (by rw [e]; decide)
            split
            · exact val1_fit (by decide) (by decide) trivial
            · have h1 := lstSp_fit s hs f (i + 1) .nil (by omega) trivial (Nat.zero_le _)
              have h2 := lstSp_place s f (i + 1) .nil (by omega)
              exact val1_fit (by decide) (by have := h1.2; omega) h1.1
          · exact val1_fit (by decide) (by decide) trivial
theorem lstSp_fit (s : ByteArray) (hs : s.size ≤ 1000000000) : ∀ (f i : Nat) (acc : VL), i ≤ s.size → acc.fit → acc.len ≤ i → (lstSp s f i acc).2.2.fit ∧ (lstSp s f i acc).2.2.len ≤ s.size + 1
  | 0, i, acc, h, ha, hl => by rw [lstSp]; exact ⟨ha, by simp only; omega⟩
  | f + 1, i, acc, h, ha, hl => by
    have hv := valSp_fit s hs f i h
    have hp := valSp_place s f i h
    have hone := valSp_one s f i
    rw [lstSp]
    split
    · exact ⟨ha, by simp only; omega⟩
    · rename_i hok
      obtain ⟨k, n, t, sub, e⟩ := hone (by simpa using hok)
      have hf : (acc.app (valSp s f i).2.2).fit := VL.fit_app _ _ ha hv
      have hl2 : (acc.app (valSp s f i).2.2).len = acc.len + 1 := by rw [VL.len_app, e]; rfl
      split
      · rename_i e1
        have hi1 : (valSp s f i).1 < s.size := pk_lt (by rw [e1]; decide)
        split
        · rename_i e2
          have hi2 : (valSp s f i).1 + 1 < s.size := pk_lt (by rw [e2]; decide)
          exact lstSp_fit s hs f _ _ (by omega) hf (by omega)
        · exact ⟨hf, by simp only; omega⟩
      · split
        · exact ⟨hf, by simp only; omega⟩
        · exact ⟨hf, by simp only; omega⟩
end

theorem ret_val {a b : Value} (h : a = b) : Ending.returned a = .returned b := by rw [h]
theorem LfAt.new (W : World) (n : Int) : LfAt (W.alloc (.cells #[.int .i64 n] 3)) W.heap.size n := by unfold LfAt World.alloc; simp

set_option maxHeartbeats 1000000 in
theorem valid_c (k n : Int) (s : ByteArray) (sub : VL) (sa : Option Addr) (sc : Nat) (ea : Nat → Addr) (w : World) (he : ErrsAt w ea) (hs : s.size ≤ 140737488351232) (hl : sub.len ≤ 140737488351232) (hf : sub.fit) (hsc : sub.len ≤ sc)
    (hr : RpL w (fun b => b < w.heap.size) sub sa) :
    Calls Tryz.prog 93 #[.agg #[.int .i64 k, .int .i64 n, .string s, .slice sa sub.len sc]] w fun e w' => e = .returned (errV ea (walk1 k n s sub 1 4096).1) ∧ Below w.heap.size w w' := by
  have hroom := he.room
  obtain ⟨wa, hwa⟩ : ∃ wa, wa = (w.alloc (.cells #[.int .i64 k, .int .i64 n, .string s, .slice sa sub.len sc] 28)).alloc (.cells #[.int .i64 4096] 3) := ⟨_, rfl⟩
  have hb : Below w.heap.size w wa := by rw [hwa]; exact ((Below.refl _ _).alloc (Nat.le_refl _) _).alloc (by simp) _
  have hV : StB wa w.heap.size (.int .i64 k) (.int .i64 n) (.string s) (.slice sa sub.len sc) := by rw [hwa]; exact (StB.new w _ _ _ _).alloc _
  have hL : LfAt wa (w.heap.size + 1) 4096 := by rw [hwa]; have := LfAt.new (w.alloc (.cells #[.int .i64 k, .int .i64 n, .string s, .slice sa sub.len sc] 28)) 4096; simpa using this
  have hwz : wa.heap.size = w.heap.size + 2 := by rw [hwa]; simp
  have WC := Lib.hid (walk_c (sub.size + 1) k n s sub sa sc 1 4096 (w.heap.size + 1) ea wa (by omega) (he.below hb (by omega)) hL (by omega) hs hl hf hsc
    (hr.keep (fun b hlt => hb.block b hlt) (fun b hlt => ⟨by omega, by omega⟩)) (by omega) (by omega) (by omega) (by omega))
  have v0 := hV.c0; have v1 := hV.c1; have v2 := hV.c2; have v3 := hV.c3
  have HB := Lib.hid hb
  have HWA := Lib.hid hwa
  have HWZ := Lib.hid hwz
  rw [hwa] at v0 v1 v2 v3
  clear hb hV hL hwa hwz hr
  go_enter Tryz.func93, Tryz.ntmps93
  go_wp2_with fail
  rw [← HWA.out]
  refine WC.out.mono ?_
  rintro e w5 ⟨rfl, hl5, hg5⟩
  have HG := Lib.hid hg5
  clear hg5 hl5 HWA v0 v1 v2 v3
  by_cases hc : (walk1 k n s sub 1 4096).1 = 0
  · have HC := Lib.hid hc
    rw [hc, show errV ea 0 = Value.nilIface from rfl]
    clear hc
    go_wp2_with fail
    go_ret
    exact ⟨ret_val (by rw [HC.out]; rfl), HB.out.trans ⟨HG.out.os, HG.out.tape, HG.out.output, HG.out.size, fun b hb => HG.out.block b (by have := HWZ.out; omega) (fun e => by injection e with e; omega)⟩⟩
  · have HERR := Lib.hid (show errV ea (walk1 k n s sub 1 4096).1 = .iface 204 (.pointer (some (ea (walk1 k n s sub 1 4096).1))) by unfold errV; rw [if_neg hc])
    clear hc
    rw [HERR.out]
    go_wp2_with fail
    go_ret
    exact ⟨ret_val HERR.out.symm, HB.out.trans ⟨HG.out.os, HG.out.tape, HG.out.output, HG.out.size, fun b hb => HG.out.block b (by have := HWZ.out; omega) (fun e => by injection e with e; omega)⟩⟩
end Go.Proofs.YtjibjgokloondaaGreatDoor
namespace Go.Proofs.YtjibjgokloondaaGreatDoor
open Go.RowKit Go.Lib
set_option linter.unusedVariables false

/-- A struct of four cells and an error handed back. -/
theorem ret_cell4_tmp {fn : Func} {p u : Tmp} {Q : Ending → World → Prop} {act : Act} {w : World} (h : fn.results = #[.cell p 28, .tmp u]) (g : Nat) (hp : act.tmps.getD p undef = .pointer (some ⟨g, 0, none⟩)) (hd : act.defers = [])
    {a b c d : Value} (hS : StB w g a b c d) (hQ : Q (.returned (.tuple #[.agg #[a, b, c, d], act.tmps.getD u undef])) w) : bodyPost Tryz.prog fn Q .ret act w := by
  refine bodyPost_ret (v := .tuple #[.agg #[a, b, c, d], act.tmps.getD u undef]) ?_ hd hQ
  have c0 := hS.c0
  have c1 := hS.c1
  have c2 := hS.c2
  have c3 := hS.c3
  have hp' : (act.tmps[p]?).getD undef = .pointer (some ⟨g, 0, none⟩) := by simpa using hp
  simp [results, h, hp', go_sem, c0, c1, c2, c3]

/-- What the reader makes of a text. -/
def rdV (s : ByteArray) : Nat × Bool × VL := valSp s (2 * s.size + 2) 0
/-- It stops at a sign. -/
def rdBad (s : ByteArray) : Prop := ¬ ((rdV s).2.1 = true ∧ s.size ≤ (rdV s).1)

/-- What a call of Read shows. -/
def RdOut (ea : Nat → Addr) (s : ByteArray) (w : World) (e : Ending) (w' : World) : Prop :=
  Below w.heap.size w w' ∧
  ((rdBad s ∧ ∃ A, w.heap.size ≤ A ∧ w'.heap[A]? = some (.cells #[.int .i64 (rdV s).1, errV ea 111] 61 (0, 0)) ∧
      e = .returned (.tuple #[.agg #[.int .i64 0, .int .i64 0, .string ⟨#[]⟩, .slice none 0 0], .iface 58 (.pointer (some ⟨A, 0, none⟩))])) ∨
   (¬ rdBad s ∧ ∃ (k n : Int) (t : ByteArray) (sub : VL), (rdV s).2.2 = val1 k n t sub ∧
      (((walk1 k n t sub 1 4096).1 ≠ 0 ∧ e = .returned (.tuple #[.agg #[.int .i64 0, .int .i64 0, .string ⟨#[]⟩, .slice none 0 0], errV ea (walk1 k n t sub 1 4096).1])) ∨
       ((walk1 k n t sub 1 4096).1 = 0 ∧ ∃ (sa : Option Addr) (sc : Nat), sub.len ≤ sc ∧ RpL w' (fun b => w.heap.size ≤ b ∧ b < w'.heap.size) sub sa ∧
          e = .returned (.tuple #[.agg #[.int .i64 k, .int .i64 n, .string t, .slice sa sub.len sc], .nilIface])))))

theorem RdAt.new (W : World) (s : ByteArray) (i : Nat) (ok : Bool) : RdAt (W.alloc (.cells #[.string s, .int .i64 i, .bool ok] 128)) W.heap.size s i ok := by unfold RdAt World.alloc; simp

theorem RdBad.a {w w5 : World} (hb : Below w.heap.size w w5) (hz : w.heap.size < w5.heap.size) {a b c d : Value} (H : StB w5 w.heap.size a b c d) (o : Obj) (a' b' c' d' : Value) :
    let W' := (((((w5.setCell ⟨w.heap.size, 0, none⟩ a').setCell ⟨w.heap.size, 1, none⟩ b').setCell ⟨w.heap.size, 2, none⟩ c').setCell ⟨w.heap.size, 3, none⟩ d').alloc o).drew
    StB W' w.heap.size a' b' c' d' ∧ Below w.heap.size w W' ∧ W'.heap[w5.heap.size]? = some o := by
  refine ⟨(H.set4 a' b' c' d').alloc o, ?_, ?_⟩
  · refine Below.drew (Below.alloc (Below.setCell (Below.setCell (Below.setCell (Below.setCell hb ?_ _) ?_ _) ?_ _) ?_ _) ?_ _)
    · exact Nat.le_refl _
    · exact Nat.le_refl _
    · exact Nat.le_refl _
    · exact Nat.le_refl _
    · rw [size_set4]; omega
  · have h : ∀ W : World, (W.alloc o).drew.heap[W.heap.size]? = some o := fun W => by
      show (W.alloc o).heap[W.heap.size]? = some o
      unfold World.alloc; simp
    have := h ((((w5.setCell ⟨w.heap.size, 0, none⟩ a').setCell ⟨w.heap.size, 1, none⟩ b').setCell ⟨w.heap.size, 2, none⟩ c').setCell ⟨w.heap.size, 3, none⟩ d')
    rw [size_set4] at this; exact this
theorem RdBad.b {w w5 : World} (hb : Below w.heap.size w w5) (hz : w.heap.size < w5.heap.size) {a b c d : Value} (H : StB w5 w.heap.size a b c d) (o : Obj) (a' b' c' d' : Value) :
    let W' := (((((w5.alloc o).setCell ⟨w.heap.size, 0, none⟩ a').setCell ⟨w.heap.size, 1, none⟩ b').setCell ⟨w.heap.size, 2, none⟩ c').setCell ⟨w.heap.size, 3, none⟩ d').drew
    StB W' w.heap.size a' b' c' d' ∧ Below w.heap.size w W' ∧ W'.heap[w5.heap.size]? = some o := by
  refine ⟨(H.alloc o).set4 a' b' c' d', ?_, ?_⟩
  · refine Below.drew (Below.setCell (Below.setCell (Below.setCell (Below.setCell (Below.alloc hb (by omega) _) ?_ _) ?_ _) ?_ _) ?_ _)
    · exact Nat.le_refl _
    · exact Nat.le_refl _
    · exact Nat.le_refl _
    · exact Nat.le_refl _
  · show ((((((w5.alloc o).setCell ⟨w.heap.size, 0, none⟩ a').setCell ⟨w.heap.size, 1, none⟩ b').setCell ⟨w.heap.size, 2, none⟩ c').setCell ⟨w.heap.size, 3, none⟩ d').heap[w5.heap.size]?) = _
    rw [heap_set4 _ _ _ _ _ _ _ (by omega)]; unfold World.alloc; simp
theorem RdOut.bad {ea : Nat → Addr} {s : ByteArray} {w W' : World} {at_ A : Nat} {ok : Bool} {v : VL} (hq : (at_, ok, v) = rdV s) (hbad : ¬ (ok = true ∧ s.size ≤ at_)) (hb : Below w.heap.size w W') (hA : w.heap.size ≤ A)
    (h : W'.heap[A]? = some (.cells #[.int .i64 at_, .iface 204 (.pointer (some (ea 111)))] 61 (0, 0))) :
    RdOut ea s w (.returned (.tuple #[.agg #[.int .i64 0, .int .i64 0, .string ⟨#[]⟩, .slice none 0 0], .iface 58 (.pointer (some ⟨A, 0, none⟩))])) W' := by
  refine ⟨hb, .inl ⟨by unfold rdBad; rw [← hq]; exact hbad, A, hA, ?_, rfl⟩⟩
  rw [← hq]; exact h

theorem StB.below {w w' : World} {g : Nat} {a b c d : Value} {B : Nat} (h : StB w g a b c d) (hb : Below B w w') (hB : g < B) : StB w' g a b c d := (hb.block g hB).trans h
theorem below_set4 {w w' : World} {B : Nat} (h : Below B w w') {g : Nat} (hg : B ≤ g) (a b c d : Value) :
    Below B w ((((w'.setCell ⟨g, 0, none⟩ a).setCell ⟨g, 1, none⟩ b).setCell ⟨g, 2, none⟩ c).setCell ⟨g, 3, none⟩ d) :=
  Below.setCell (Below.setCell (Below.setCell (Below.setCell h hg _) hg _) hg _) hg _
theorem below_le' {B B' : Nat} {w w' : World} (h : Below B w w') (hb : B' ≤ B) : Below B' w w' := ⟨h.os, h.tape, h.output, h.size, fun k hk => h.block k (by omega)⟩

set_option maxRecDepth 100000 in
set_option maxHeartbeats 4000000 in
theorem read_c (s : ByteArray) (ea : Nat → Addr) (w : World) (he : ErrsAt w ea) (hs : s.size ≤ 1000000000) :
    Calls Tryz.prog 76 #[.string s] w (RdOut ea s w) := by
  have hroom := he.room
  obtain ⟨q, hq⟩ : ∃ q, q = rdV s := ⟨_, rfl⟩
  obtain ⟨wa, hwa⟩ : ∃ wa, wa = (w.alloc (.cells #[.int .i64 0, .int .i64 0, .string ⟨#[]⟩, .slice none 0 0] 28)).alloc (.cells #[.string s, .int .i64 0, .bool true] 128) := ⟨_, rfl⟩
  have hB2 : StB wa w.heap.size (.int .i64 0) (.int .i64 0) (.string ⟨#[]⟩) (.slice none 0 0) := by rw [hwa]; exact (StB.new w _ _ _ _).alloc _
  have hb : Below w.heap.size w wa := by rw [hwa]; exact ((Below.refl _ _).alloc (Nat.le_refl _) _).alloc (by simp) _
  have hwz : wa.heap.size = w.heap.size + 2 := by rw [hwa]; simp
  have hR : RdAt wa (w.heap.size + 1) s 0 true := by
    rw [hwa]; have h := RdAt.new (w.alloc (.cells #[.int .i64 0, .int .i64 0, .string ⟨#[]⟩, .slice none 0 0] 28)) s 0 true
    rw [World.size_alloc] at h; exact h
  have V := Lib.hid (value_c (2 * s.size + 2) (w.heap.size + 1) s 0 wa hR hs (by omega) (by omega))
  rw [show valSp s (2 * s.size + 2) 0 = q from hq.symm] at V
  have HB := Lib.hid hb
  have HW := Lib.hid hwa
  have HZ := Lib.hid hwz
  have H2 := Lib.hid hB2
  have HE := Lib.hid he
  have HQ := Lib.hid hq
  obtain ⟨at_, ok, v⟩ := q
  clear hb hwz hB2 hR hwa hq
  go_enter Tryz.func76, Tryz.ntmps76
  go_wp2_with fail
  rw [← HW.out]
  refine V.out.mono ?_
  rintro e w2 ⟨vk, vn, vt, va, vl, vc, rfl, hr2, hval⟩
  clear V HW
  have hg := hr2.grown
  have hz2 : w.heap.size + 2 ≤ w2.heap.size := by have := hg.size; have := HZ.out; omega
  have hr5 := hr2.alloc (.cells #[.int .i64 vk, .int .i64 vn, .string vt, .slice va vl vc] 28)
  have hV5 := StB.new w2 (.int .i64 vk) (.int .i64 vn) (.string vt) (.slice va vl vc)
  have h25 : StB _ w.heap.size _ _ _ _ := (H2.out.only hg (by intro e; injection e with e; omega)).alloc (.cells #[.int .i64 vk, .int .i64 vn, .string vt, .slice va vl vc] 28)
  have r1 := hr5.at_.c1; have r2 := hr5.at_.c2
  have HR5 := Lib.hid hr5
  have HV5 := Lib.hid hV5
  have H25 := Lib.hid h25
  have HVAL := Lib.hid hval
  clear hval hr5 hV5 h25 hr2 hg
  have hb5 : Below w.heap.size w (w2.alloc (.cells #[.int .i64 vk, .int .i64 vn, .string vt, .slice va vl vc] 28)) := by
    have hg5 := HR5.out.grown
    exact HB.out.trans ⟨hg5.os, hg5.tape, hg5.output, hg5.size, fun b hb => hg5.block b (by have := HZ.out; omega) (fun e => by injection e with e; omega)⟩
  have he5 := (HE.out.below hb5 (by omega)).syn
  have HE5 := Lib.hid (HE.out.below hb5 (by omega))
  have HB5 := Lib.hid hb5
  have k0 := H25.out.c0; have k1 := H25.out.c1; have k2 := H25.out.c2; have k3 := H25.out.c3
  have f0 := H25.out.fr 0; have f1 := H25.out.fr 1; have f2 := H25.out.fr 2; have f3 := H25.out.fr 3
  clear hb5
  have hz5 : w.heap.size < (w2.alloc (.cells #[.int .i64 vk, .int .i64 vn, .string vt, .slice va vl vc] 28)).heap.size := by simp only [World.size_alloc]; omega
  by_cases hbad : ok = true ∧ s.size ≤ at_
  · obtain ⟨rfl, hge⟩ := hbad
    obtain ⟨sub, hv, rfl, hsc, hrep⟩ := HVAL.out rfl
    clear HVAL
    replace hv : v = val1 vk vn vt sub := hv
    have hfit : v.fit := by have := valSp_fit s (by omega) (2 * s.size + 2) 0 (by omega); rw [show valSp s (2 * s.size + 2) 0 = (at_, true, v) from HQ.out.symm] at this; exact this
    rw [hv] at hfit
    have hd2 : decide (at_ < s.size) = false := by simp; exact hge
    have hd : decide ((at_ : Int) < (s.size : Int)) = false := by simp; exact hge
    have hrep5 : RpL (w2.alloc (.cells #[.int .i64 vk, .int .i64 vn, .string vt, .slice va sub.len vc] 28)) (fun b => wa.heap.size ≤ b ∧ b < w2.heap.size) sub va :=
      hrep.keep (fun b hb => Below.heap_alloc w2 _ b hb.2) (fun b hb => hb)
    obtain ⟨w5, hw5⟩ : ∃ w5, w5 = w2.alloc (.cells #[.int .i64 vk, .int .i64 vn, .string vt, .slice va sub.len vc] 28) := ⟨_, rfl⟩
    have HS5 := Lib.hid (show w2.heap.size < w5.heap.size by rw [hw5]; simp)
    rw [← hw5] at HV5 H25 HB5 HE5 hrep5 hz5
    have HW5 := Lib.hid hw5
    have VC := Lib.hid (valid_c vk vn vt sub va vc ea w5 HE5.out hfit.1 hfit.2.1 hfit.2.2.1 hsc (hrep5.keep (fun b _ => rfl) (fun b hb => by have := hb.2; have := HS5.out; omega)))
    have HREP := Lib.hid hrep5
    have HSC := Lib.hid hsc
    have HNB := Lib.hid (show ¬ rdBad s by intro h; apply h; rw [← HQ.out]; exact ⟨rfl, hge⟩)
    have HVV := Lib.hid (show (rdV s).2.2 = val1 vk vn vt sub by rw [← HQ.out]; exact hv)
    have v0 := HV5.out.c0; have v1 := HV5.out.c1; have v2 := HV5.out.c2; have v3 := HV5.out.c3
    rw [hw5] at v0 v1 v2 v3
    clear hw5 hrep hrep5 hsc hv hfit hge
    go_wp2_with fail
    rw [← HW5.out]
    refine VC.out.mono ?_
    rintro e w6 ⟨rfl, hb6⟩
    have HB6 := Lib.hid hb6
    have HV6 := Lib.hid (HV5.out.below hb6 (by have := HS5.out; omega))
    have H26 := Lib.hid (H25.out.below hb6 (by have := HS5.out; omega))
    clear hb6 v0 v1 v2 v3 k0 k1 k2 k3 f0 f1 f2 f3 r1 r2 he5 HW5 VC
    have v0 := HV6.out.c0; have v1 := HV6.out.c1; have v2 := HV6.out.c2; have v3 := HV6.out.c3
    have k0 := H26.out.c0; have k1 := H26.out.c1; have k2 := H26.out.c2; have k3 := H26.out.c3
    have f0 := H26.out.fr 0; have f1 := H26.out.fr 1; have f2 := H26.out.fr 2; have f3 := H26.out.fr 3
    by_cases hc : (walk1 vk vn vt sub 1 4096).1 = 0
    · have HC := Lib.hid hc
      rw [hc, show errV ea 0 = Value.nilIface from rfl]
      clear hc
      go_wp2_with fail
      refine ret_cell4_tmp Tryz.results76 w.heap.size rfl rfl (H26.out.set4 _ _ _ _) ?_
      refine ⟨below_set4 (HB5.out.trans (below_le' HB6.out (by omega))) (Nat.le_refl _) _ _ _ _, .inr ⟨HNB.out, vk, vn, vt, sub, HVV.out, .inr ⟨HC.out, va, vc, HSC.out, ?_, rfl⟩⟩⟩
      exact HREP.out.keep (fun b hb => by rw [heap_set4 _ _ _ _ _ _ _ (by have := hb.1; have := HZ.out; omega)]; exact HB6.out.block b (by have := hb.2; have := HS5.out; omega))
        (fun b hb => ⟨by have := hb.1; have := HZ.out; omega, by rw [size_set4]; have := HB6.out.size; have := hb.2; have := HS5.out; omega⟩)
    · have HC := Lib.hid hc
      have HERR := Lib.hid (show errV ea (walk1 vk vn vt sub 1 4096).1 = .iface 204 (.pointer (some (ea (walk1 vk vn vt sub 1 4096).1))) by unfold errV; rw [if_neg hc])
      clear hc
      rw [HERR.out]
      go_wp2_with fail
      refine ret_cell4_tmp Tryz.results76 w.heap.size rfl rfl (H26.out.set4 _ _ _ _) ?_
      exact ⟨below_set4 (HB5.out.trans (below_le' HB6.out (by omega))) (Nat.le_refl _) _ _ _ _, .inr ⟨HNB.out, vk, vn, vt, sub, HVV.out, .inl ⟨HC.out, by rw [HERR.out]; rfl⟩⟩⟩
  have HBAD := Lib.hid hbad
  have H26 := Lib.hid (H25.out.alloc (.cells #[.int .i64 at_, .iface 204 (.pointer (some (ea 111)))] 61))
  have m0 := H26.out.c0; have m1 := H26.out.c1; have m2 := H26.out.c2; have m3 := H26.out.c3
  have n0 := H26.out.fr 0; have n1 := H26.out.fr 1; have n2 := H26.out.fr 2; have n3 := H26.out.fr 3
  cases ok with
  | false =>
    clear hbad
    go_wp2_with fail
    go_region
    · go_wp2_with fail
      have hA := RdBad.b HB5.out hz5 H25.out (.cells #[.int .i64 at_, .iface 204 (.pointer (some (ea 111)))] 61) (.int .i64 0) (.int .i64 0) (.string ⟨#[]⟩) (.slice none 0 0)
      have hA3 := hA.2.2
      rw [World.size_alloc] at hA3
      refine ret_cell4_tmp Tryz.results76 w.heap.size rfl rfl hA.1 ?_
      exact RdOut.bad HQ.out HBAD.out hA.2.1 (by omega) hA3
    · go_wp2_with fail
      have hA := RdBad.a HB5.out hz5 H25.out (.cells #[.int .i64 at_, .iface 204 (.pointer (some (ea 111)))] 61) (.int .i64 0) (.int .i64 0) (.string ⟨#[]⟩) (.slice none 0 0)
      have hA3 := hA.2.2
      rw [World.size_alloc] at hA3
      refine ret_cell4_tmp Tryz.results76 w.heap.size rfl rfl hA.1 ?_
      exact RdOut.bad HQ.out HBAD.out hA.2.1 (by omega) hA3
  | true =>
    have hlt : at_ < s.size := by
      rcases Nat.lt_or_ge at_ s.size with h | h
      · exact h
      · exact absurd ⟨rfl, h⟩ hbad
    have hd : decide ((at_ : Int) < (s.size : Int)) = true := by simp; exact hlt
    clear hbad
    go_wp2_with fail
    go_region
    · go_wp2_with fail
      have hA := RdBad.b HB5.out hz5 H25.out (.cells #[.int .i64 at_, .iface 204 (.pointer (some (ea 111)))] 61) (.int .i64 0) (.int .i64 0) (.string ⟨#[]⟩) (.slice none 0 0)
      have hA3 := hA.2.2
      rw [World.size_alloc] at hA3
      refine ret_cell4_tmp Tryz.results76 w.heap.size rfl rfl hA.1 ?_
      exact RdOut.bad HQ.out (fun h => HBAD.out ⟨trivial, h.2⟩) hA.2.1 (by omega) hA3
    · go_wp2_with fail
      have hA := RdBad.a HB5.out hz5 H25.out (.cells #[.int .i64 at_, .iface 204 (.pointer (some (ea 111)))] 61) (.int .i64 0) (.int .i64 0) (.string ⟨#[]⟩) (.slice none 0 0)
      have hA3 := hA.2.2
      rw [World.size_alloc] at hA3
      refine ret_cell4_tmp Tryz.results76 w.heap.size rfl rfl hA.1 ?_
      exact RdOut.bad HQ.out (fun h => HBAD.out ⟨trivial, h.2⟩) hA.2.1 (by omega) hA3
end Go.Proofs.YtjibjgokloondaaGreatDoor
namespace Go.Proofs.YtjibjgokloondaaGreatDoor
open Go.RowKit Go.Lib
set_option linter.unusedVariables false

/-- A node in a block of its own. -/
def NdB (w : World) (g : Nat) (a b c d e f h i : Value) : Prop := w.heap[g]? = some (.cells #[a, b, c, d, e, f, h, i] 31 (0, 0))
section
variable {w w' : World} {g : Nat} {a b c d e f h i : Value}
theorem NdB.lt (H : NdB w g a b c d e f h i) : g < w.heap.size := by
  rcases Nat.lt_or_ge g w.heap.size with hlt | hge
  · exact hlt
  · unfold NdB at H; rw [Array.getElem?_eq_none hge] at H; cases H
theorem NdB.new (w : World) (a b c d e f h i : Value) : NdB (w.alloc (.cells #[a, b, c, d, e, f, h, i] 31)) w.heap.size a b c d e f h i := heap_alloc_new w _
theorem NdB.c0 (H : NdB w g a b c d e f h i) : w.cell? ⟨g, 0, none⟩ = some a := cell_of_row w g 0 _ _ _ H
theorem NdB.c1 (H : NdB w g a b c d e f h i) : w.cell? ⟨g, 1, none⟩ = some b := cell_of_row w g 1 _ _ _ H
theorem NdB.c2 (H : NdB w g a b c d e f h i) : w.cell? ⟨g, 2, none⟩ = some c := cell_of_row w g 2 _ _ _ H
theorem NdB.c3 (H : NdB w g a b c d e f h i) : w.cell? ⟨g, 3, none⟩ = some d := cell_of_row w g 3 _ _ _ H
theorem NdB.c4 (H : NdB w g a b c d e f h i) : w.cell? ⟨g, 4, none⟩ = some e := cell_of_row w g 4 _ _ _ H
theorem NdB.c5 (H : NdB w g a b c d e f h i) : w.cell? ⟨g, 5, none⟩ = some f := cell_of_row w g 5 _ _ _ H
theorem NdB.c6 (H : NdB w g a b c d e f h i) : w.cell? ⟨g, 6, none⟩ = some h := cell_of_row w g 6 _ _ _ H
theorem NdB.c7 (H : NdB w g a b c d e f h i) : w.cell? ⟨g, 7, none⟩ = some i := cell_of_row w g 7 _ _ _ H
theorem NdB.fr (H : NdB w g a b c d e f h i) (k : Nat) : w.frozen? ⟨g, k, none⟩ = false := by unfold NdB at H; simp [World.frozen?, H]
theorem NdB.below {B : Nat} (H : NdB w g a b c d e f h i) (hb : Below B w w') (hB : g < B) : NdB w' g a b c d e f h i := (hb.block g hB).trans H
theorem NdB.below' (H : NdB w g a b c d e f h i) (hb : Below w.heap.size w w') : NdB w' g a b c d e f h i := (hb.block g H.lt).trans H
theorem NdB.alloc (H : NdB w g a b c d e f h i) (o : Obj) : NdB (w.alloc o) g a b c d e f h i := (Below.heap_alloc w o g H.lt).trans H
end

/-- The i-th node of a list in memory. -/
theorem RpN.nth {w : World} {S : Nat → Prop} {l : NL} {A : Option Addr} {i : Nat} (h : RpN w S l A) (hi : i < l.len) :
    ∃ (b o : Nat) (op ln : Int) (s : ByteArray) (k n : Int) (t : ByteArray) (v : VL) (sub : NL) (va : Option Addr) (vc : Nat) (sa : Option Addr) (sc : Nat),
      A = some ⟨b, o, none⟩ ∧ S b ∧ l.drop i = .cons op ln s k n t v sub (l.drop (i + 1)) ∧
      w.cell? ⟨b, o + i * 8, none⟩ = some (.int .i64 op) ∧ w.cell? ⟨b, o + i * 8 + 1, none⟩ = some (.int .i64 ln) ∧ w.cell? ⟨b, o + i * 8 + 2, none⟩ = some (.string s) ∧
      w.cell? ⟨b, o + i * 8 + 3, none⟩ = some (.int .i64 k) ∧ w.cell? ⟨b, o + i * 8 + 4, none⟩ = some (.int .i64 n) ∧ w.cell? ⟨b, o + i * 8 + 5, none⟩ = some (.string t) ∧
      w.cell? ⟨b, o + i * 8 + 6, none⟩ = some (.slice va v.len vc) ∧ v.len ≤ vc ∧ RpL w S v va ∧
      w.cell? ⟨b, o + i * 8 + 7, none⟩ = some (.slice sa sub.len sc) ∧ sub.len ≤ sc ∧ RpN w S sub sa := by
  obtain ⟨b, o, hA⟩ : ∃ b o, A = some ⟨b, o, none⟩ := by
    cases l with
    | nil => simp [NL.len] at hi
    | cons => obtain ⟨b, o, _, _, _, _, e, _⟩ := h; exact ⟨b, o, e⟩
  subst hA
  obtain ⟨op, ln, s, k, n, t, v, sub, hd⟩ := NL.drop_of_lt i l hi
  have hdr := RpN.drop i l b o h
  rw [hd] at hdr
  obtain ⟨b', o', va, vc, sa, sc, e, hS, c0, c1, c2, c3, c4, c5, c6, h6, hv, c7, h7, hs, _⟩ := hdr
  injection e with e
  injection e with e1 e2
  subst e1
  subst e2
  rw [Nat.mul_comm 8 i] at c0 c1 c2 c3 c4 c5 c6 c7
  exact ⟨b, o, op, ln, s, k, n, t, v, sub, va, vc, sa, sc, rfl, hS, hd, c0, c1, c2, c3, c4, c5, c6, h6, hv, c7, h7, hs⟩

namespace NL
theorem fit_drop : ∀ (i : Nat) (l : NL), l.fit → (l.drop i).fit
  | 0, l, h => by rw [NL.drop]; exact h
  | i + 1, .nil, h => h
  | i + 1, .cons _ _ _ _ _ _ _ _ r, h => fit_drop i r h.2.2.2.2.2.2
theorem tot_drop : ∀ (i : Nat) (l : NL), (l.drop i).tot ≤ l.tot
  | 0, l => by rw [NL.drop]; exact Nat.le_refl _
  | i + 1, .nil => Nat.le_refl _
  | i + 1, .cons _ _ _ _ _ _ _ sub r => by have := tot_drop i r; simp only [NL.drop, NL.tot]; omega
theorem deep_tot : ∀ l : NL, l.deep ≤ l.tot
  | .nil => Nat.le_refl _
  | .cons _ _ _ _ _ _ _ sub r => by
    have := deep_tot sub; have := deep_tot r
    simp only [NL.deep, NL.tot]
    exact Nat.max_le.2 ⟨by omega, by omega⟩
end NL

/-- How many nodes there are, up to one more than may be. -/
def countN : NL → Int → Int
  | .nil, n => n
  | .cons _ _ _ _ _ _ _ sub r, n => if 4096 < n + 1 then n + 1 else if 4096 < countN sub (n + 1) then countN sub (n + 1) else countN r (countN sub (n + 1))
theorem countN_eq : ∀ (l : NL) (n : Int), 0 ≤ n → n ≤ 4096 → countN l n = if n + l.tot ≤ 4096 then n + l.tot else 4097
  | .nil, n, h0, h1 => by
    rw [countN, if_pos (by simp only [NL.tot]; omega)]; simp [NL.tot]
  | .cons op ln s k m t v sub r, n, h0, h1 => by
    rw [countN]
    obtain ⟨T, hT⟩ : ∃ T, T = (NL.cons op ln s k m t v sub r).tot := ⟨_, rfl⟩
    rw [← hT]
    simp only [NL.tot] at hT
    by_cases h : 4096 < n + 1
    · rw [if_pos h, if_neg (by omega)]; omega
    · rw [if_neg h]
      have e1 := countN_eq sub (n + 1) (by omega) (by omega)
      by_cases h2 : n + 1 + sub.tot ≤ 4096
      · rw [if_pos h2] at e1
        rw [e1, if_neg (by omega), countN_eq r _ (by omega) h2]
        by_cases h3 : n + 1 + sub.tot + r.tot ≤ 4096
        · rw [if_pos h3, if_pos (by omega)]; omega
        · rw [if_neg h3, if_neg (by omega)]
      · rw [if_neg h2] at e1
        rw [e1, if_pos (by omega), if_neg (by omega)]
theorem countN_range (l : NL) (n : Int) (h0 : 0 ≤ n) (h1 : n ≤ 4096) : 0 ≤ countN l n ∧ countN l n ≤ 4097 := by
  rw [countN_eq l n h0 h1]; split <;> omega
end Go.Proofs.YtjibjgokloondaaGreatDoor
namespace Go.Proofs.YtjibjgokloondaaGreatDoor
open Go.RowKit Go.Lib
set_option linter.unusedVariables false

/-- The cells of a row of nodes. -/
def NRow (w : World) (S : Nat → Prop) : NL → List Value → Prop
  | .nil, xs => xs = []
  | .cons op ln s k n t v sub r, xs => ∃ (va : Option Addr) (vc : Nat) (sa : Option Addr) (sc : Nat) (ys : List Value), xs = [.int .i64 op, .int .i64 ln, .string s, .int .i64 k, .int .i64 n, .string t, .slice va v.len vc, .slice sa sub.len sc] ++ ys ∧
      v.len ≤ vc ∧ RpL w S v va ∧ sub.len ≤ sc ∧ RpN w S sub sa ∧ NRow w S r ys
theorem nrow_len {w : World} {S : Nat → Prop} : ∀ (l : NL) (xs : List Value), NRow w S l xs → xs.length = l.len * 8
  | .nil, xs, h => by rw [show xs = [] from h]; rfl
  | .cons _ _ _ _ _ _ _ _ r, xs, ⟨_, _, _, _, ys, h, _, _, _, _, hr⟩ => by
    rw [h, List.length_append, nrow_len r ys hr, NL.len]
    simp only [List.length_cons, List.length_nil]; omega
theorem nrow_one {w : World} {S : Nat → Prop} : ∀ (l : NL) (xs : List Value), NRow w S l xs → ∀ u ∈ xs, u.oneCell' = true
  | .nil, xs, h, u, hu => by rw [show xs = [] from h] at hu; cases hu
  | .cons _ _ _ _ _ _ _ _ r, xs, ⟨_, _, _, _, ys, h, _, _, _, _, hr⟩, u, hu => by
    rw [h, List.mem_append] at hu
    rcases hu with hu | hu
    · simp only [List.mem_cons, List.not_mem_nil, or_false] at hu
      rcases hu with rfl | rfl | rfl | rfl | rfl | rfl | rfl | rfl <;> rfl
    · exact nrow_one r ys hr u hu
theorem nrow_keep {w w' : World} {S S' : Nat → Prop} (hw : ∀ b, S b → w'.heap[b]? = w.heap[b]?) (hS : ∀ b, S b → S' b) : ∀ (l : NL) (xs : List Value), NRow w S l xs → NRow w' S' l xs
  | .nil, _, h => h
  | .cons _ _ _ _ _ _ _ _ r, xs, ⟨va, vc, sa, sc, ys, h, h1, h2, h3, h4, hr⟩ => ⟨va, vc, sa, sc, ys, h, h1, RpL.keep hw hS _ _ h2, h3, RpN.keep hw hS _ _ h4, nrow_keep hw hS r ys hr⟩
theorem nrow_app {w : World} {S : Nat → Prop} : ∀ (a b : NL) (xs ys : List Value), NRow w S a xs → NRow w S b ys → NRow w S (a.app b) (xs ++ ys)
  | .nil, b, xs, ys, h, hb => by rw [show xs = [] from h, NL.app]; exact hb
  | .cons _ _ _ _ _ _ _ _ r, b, xs, ys, ⟨va, vc, sa, sc, zs, h, h1, h2, h3, h4, hr⟩, hb => ⟨va, vc, sa, sc, zs ++ ys, by rw [h, List.append_assoc], h1, h2, h3, h4, nrow_app r b zs ys hr hb⟩
/-- A row in memory has such cells. -/
theorem nrow_of {w : World} {S : Nat → Prop} : ∀ (l : NL) (A : Option Addr), RpN w S l A → ∃ xs, NRow w S l xs ∧ ∀ b o, A = some ⟨b, o, none⟩ → ∀ (j : Nat) (u : Value), xs[j]? = some u → w.cell? ⟨b, o + j, none⟩ = some u
  | .nil, A, _ => ⟨[], rfl, fun b o _ j u h => by simp at h⟩
  | .cons op ln s k n t v sub r, A, ⟨b', o', va, vc, sa, sc, hA, hb, h0, h1, h2, h3, h4, h5, h6, hv, hvr, h7, hc, hs, hr⟩ => by
    obtain ⟨ys, hy, hc2⟩ := nrow_of r _ hr
    refine ⟨_, ⟨va, vc, sa, sc, ys, rfl, hv, hvr, hc, hs, hy⟩, fun b o e j u hu => ?_⟩
    rw [hA] at e
    injection e with e
    injection e with e1 e2
    subst e1; subst e2
    match j with
    | 0 => rw [← hu]; exact h0
    | 1 => rw [← hu]; exact h1
    | 2 => rw [← hu]; exact h2
    | 3 => rw [← hu]; exact h3
    | 4 => rw [← hu]; exact h4
    | 5 => rw [← hu]; exact h5
    | 6 => rw [← hu]; exact h6
    | 7 => rw [← hu]; exact h7
    | j + 8 =>
      have := hc2 b' (o' + 8) rfl j u (by simpa using hu)
      rw [show o' + (j + 8) = o' + 8 + j from by omega]; exact this
/-- Where such cells lie, there is the row. -/
theorem rpn_of {w : World} {S : Nat → Prop} {b : Nat} (hb : S b) : ∀ (l : NL) (xs : List Value) (o : Nat), NRow w S l xs → (∀ (j : Nat) (u : Value), xs[j]? = some u → w.cell? ⟨b, o + j, none⟩ = some u) → RpN w S l (some ⟨b, o, none⟩)
  | .nil, _, _, _, _ => trivial
  | .cons op ln s k n t v sub r, xs, o, ⟨va, vc, sa, sc, ys, h, h1, h2, h3, h4, hr⟩, hc => by
    subst h
    refine ⟨b, o, va, vc, sa, sc, rfl, hb, hc 0 _ rfl, hc 1 _ rfl, hc 2 _ rfl, hc 3 _ rfl, hc 4 _ rfl, hc 5 _ rfl, hc 6 _ rfl, h1, h2, hc 7 _ rfl, h3, h4, rpn_of hb r ys (o + 8) hr (fun j u hu => ?_)⟩
    have := hc (j + 8) u (by simpa using hu)
    rw [show o + 8 + j = o + (j + 8) from by omega]; exact this
end Go.Proofs.YtjibjgokloondaaGreatDoor
namespace Go.Proofs.YtjibjgokloondaaGreatDoor

/-- A word: its kind, line, text, and the value of a literal. -/
structure Tok where
  kind : Int
  line : Int
  s : ByteArray
  k : Int
  n : Int
  t : ByteArray
end Go.Proofs.YtjibjgokloondaaGreatDoor
namespace Go.Proofs.YtjibjgokloondaaGreatDoor

/-- Where the parser stands, how deep, and what is amiss: with a line, or too deep. -/
structure PS where
  pos : Nat
  deep : Int
  err : Option (Option Int)
def nd (op ln : Int) (s : ByteArray) (k n : Int) (t : ByteArray) (sub : NL) : NL := .cons op ln s k n t .nil sub .nil
def nd0 : NL := nd 0 0 ⟨#[]⟩ 0 0 ⟨#[]⟩ .nil
def ndL (op ln : Int) (sub : NL) : NL := nd op ln ⟨#[]⟩ 0 0 ⟨#[]⟩ sub
def NL.op : NL → Int
  | .nil => 0
  | .cons op _ _ _ _ _ _ _ _ => op
def NL.line : NL → Int
  | .nil => 0
  | .cons _ ln _ _ _ _ _ _ _ => ln
def NL.kids : NL → NL
  | .nil => .nil
  | .cons _ _ _ _ _ _ _ sub _ => sub
def lineS (l : List Tok) (p : PS) : Int := match l[p.pos]? with
  | some t => t.line
  | none => match l.getLast? with
    | some t => t.line
    | none => 1
def failS (l : List Tok) (p : PS) : PS := if p.err.isSome then p else { p with err := some (some (lineS l p)) }
def isS (l : List Tok) (p : PS) (s : List UInt8) : Bool := p.err.isNone && match l[p.pos]? with
  | some t => (t.kind == 4 || t.kind == 2) && t.s.data.toList == s
  | none => false
def nextS (p : PS) : PS := { p with pos := p.pos + 1 }
def mustS (l : List Tok) (p : PS) (s : List UInt8) : PS := if isS l p s then nextS p else failS l p
def nameS (l : List Tok) (p : PS) : ByteArray × PS := match p.err, l[p.pos]? with
  | none, some t => if t.kind == 1 then (t.s, nextS p) else (⟨#[]⟩, failS l p)
  | _, _ => (⟨#[]⟩, failS l p)
def downS (p : PS) : PS := if 160 < p.deep + 1 ∧ p.err.isNone then { p with deep := p.deep + 1, err := some none } else { p with deep := p.deep + 1 }
def upS (p : PS) : PS := { p with deep := p.deep - 1 }
def settableS : NL → Bool
  | .nil => false
  | .cons op _ _ _ _ _ _ sub _ => if op = 20 then settableS sub else op == 2 || op == 22
def varsS : NL → Bool
  | .nil => true
  | .cons op _ _ _ _ _ _ sub r => (match r with | .nil => (if op = 26 then sub.op == 2 else op == 2) | _ => op == 2) && varsS r
/-- What stands left of a sign to set. -/
def targetS (n : NL) : Option (Int × NL) := if settableS n then some (27, n) else if n.op = 25 ∧ n.kids.len ≠ 0 ∧ varsS n.kids = true then some (28, n.kids) else none
def levelS : Nat → List (List UInt8 × Int)
  | 0 => [([124, 124], 18)]
  | 1 => [([38, 38], 17)]
  | 2 => [([61, 61], 10), ([33, 61], 11), ([60], 12), ([60, 61], 13), ([62], 14), ([62, 61], 15), ([105, 110], 16)]
  | 3 => [([43], 5), ([45], 6)]
  | 4 => [([42], 7), ([47], 8), ([37], 9)]
  | _ => []
def atInt (l : List Tok) (i : Nat) : Bool := match l[i]? with
  | some t => t.kind == 3 && t.k == 0
  | none => false

/-- What is read. -/
inductive Req where
  | expr | cond | two (k : Nat) | twoL (k : Nat) (n : NL) | one | part | behind (n : NL) | items (e : List UInt8) | row (acc : NL) | codes | codesL (out : NL) (acc : NL) | first | within (e : List UInt8) | caught (line : Int)
  | block (ends : List (List UInt8)) | blockL (ends : List (List UInt8)) (acc : NL) | head | stmt | ifsL (acc : NL) | tryL (acc : NL)

def K_endwhile : List UInt8 := [101, 110, 100, 119, 104, 105, 108, 101]
def K_endfork : List UInt8 := [101, 110, 100, 102, 111, 114, 107]
def K_endfor : List UInt8 := [101, 110, 100, 102, 111, 114]
def K_endif : List UInt8 := [101, 110, 100, 105, 102]
def K_elseif : List UInt8 := [101, 108, 115, 101, 105, 102]
def K_else : List UInt8 := [101, 108, 115, 101]
def K_except : List UInt8 := [101, 120, 99, 101, 112, 116]
def K_finally : List UInt8 := [102, 105, 110, 97, 108, 108, 121]
def K_endtry : List UInt8 := [101, 110, 100, 116, 114, 121]

def prsR (l : List Tok) : Nat → Req → PS → Option (NL × PS)
  | 0, _, _ => none
  | f + 1, .expr, p =>
    (prsR l f .cond p).bind fun (n, p) =>
    if !isS l p [61] then some (n, p)
    else match targetS n with
      | none => some (n, failS l p)
      | some (op, tl) =>
        let p := downS (nextS p)
        if p.err.isNone then
          (prsR l f .expr p).bind fun (x, p) =>
          some (ndL op n.line (tl.app x), upS p)
        else some (ndL op n.line tl, upS p)
  | f + 1, .cond, p =>
    (prsR l f (.two 0) p).bind fun (n, p) =>
    if !isS l p [63] then some (n, p)
    else
      let p := downS (nextS p)
      if p.err.isNone then
        (prsR l f .expr p).bind fun (x, p) =>
        let p := mustS l p [124]
        (prsR l f .cond p).bind fun (y, p) =>
        some (ndL 19 n.line ((n.app x).app y), upS p)
      else some (ndL 19 n.line n, upS p)
  | f + 1, .two k, p =>
    if k ≥ 5 then prsR l f .one p
    else
      (prsR l f (.two (k + 1)) p).bind fun (n, p) =>
      prsR l f (.twoL k n) p
  | f + 1, .twoL k n, p => match (levelS k).find? (fun x => isS l p x.1) with
    | none => some (n, p)
    | some (_, op) =>
      (prsR l f (.two (k + 1)) (nextS p)).bind fun (y, p) =>
      prsR l f (.twoL k (ndL op n.line (n.app y))) p
  | f + 1, .one, p =>
    let line := lineS l p
    if isS l p [45] && atInt l (p.pos + 1) then
      match l[p.pos + 1]? with
      | some t => prsR l f (.behind (nd 1 line ⟨#[]⟩ t.k (RowKit.wrap64 (-t.n)) t.t .nil)) (nextS (nextS p))
      | none => some (nd0, p)
    else if isS l p [45] then
      let p := downS (nextS p)
      if p.err.isNone then
        (prsR l f .one p).bind fun (x, p) =>
        some (ndL 3 line x, upS p)
      else some (ndL 3 line .nil, upS p)
    else if isS l p [33] then
      let p := downS (nextS p)
      if p.err.isNone then
        (prsR l f .one p).bind fun (x, p) =>
        some (ndL 4 line x, upS p)
      else some (ndL 4 line .nil, upS p)
    else
      (prsR l f .first p).bind fun (n, p) =>
      prsR l f (.behind n) p
  | f + 1, .part, p =>
    if isS l p [40] then prsR l f (.within [41]) (nextS p)
    else
      let line := lineS l p
      let (s, p) := nameS l p
      some (nd 1 line ⟨#[]⟩ 2 0 s .nil, p)
  | f + 1, .behind n, p =>
    if p.err.isSome then some (n, p)
    else if isS l p [91] then
      let p := downS (nextS p)
      if p.err.isNone then
        (prsR l f .expr p).bind fun (x, p) =>
        if isS l p [46, 46] then
          (prsR l f .expr (nextS p)).bind fun (y, p) =>
          prsR l f (.behind (ndL 21 n.line ((n.app x).app y))) (mustS l (upS p) [93])
        else prsR l f (.behind (ndL 20 n.line (n.app x))) (mustS l (upS p) [93])
      else prsR l f (.behind (ndL 20 n.line n)) (mustS l (upS p) [93])
    else if isS l p [46] then
      (prsR l f .part (nextS p)).bind fun (x, p) =>
      prsR l f (.behind (ndL 22 n.line (n.app x))) p
    else if isS l p [58] then
      (prsR l f .part (nextS p)).bind fun (x, p) =>
      let p := mustS l p [40]
      (prsR l f (.items [41]) p).bind fun (y, p) =>
      prsR l f (.behind (ndL 23 n.line ((n.app x).app y))) p
    else some (n, p)
  | f + 1, .items e, p =>
    let p := downS p
    if p.err.isNone && !isS l p e then
      (prsR l f (.row .nil) p).bind fun (x, p) =>
      some (x, mustS l (upS p) e)
    else some (.nil, mustS l (upS p) e)
  | f + 1, .row acc, p =>
    if p.err.isSome then some (acc, p)
    else
      let line := lineS l p
      if isS l p [64] then
        (prsR l f .expr (nextS p)).bind fun (x, p) =>
        let acc := acc.app (ndL 26 line x)
        if isS l p [44] then prsR l f (.row acc) (nextS p) else some (acc, p)
      else
        (prsR l f .expr p).bind fun (x, p) =>
        let acc := acc.app x
        if isS l p [44] then prsR l f (.row acc) (nextS p) else some (acc, p)
  | f + 1, .codes, p =>
    let line := lineS l p
    if isS l p [97, 110, 121] then some (ndL 25 line .nil, nextS p)
    else
      (prsR l f (.codesL .nil .nil) p).bind fun (x, p) =>
      some (ndL 25 line x, p)
  | f + 1, .codesL o acc, p =>
    if p.err.isSome then some (acc, p)
    else
      (prsR l f .expr p).bind fun (x, p) =>
      let acc := acc.app x
      if isS l p [44] then prsR l f (.codesL o acc) (nextS p) else some (acc, p)
  | f + 1, .first, p =>
    let line := lineS l p
    match p.err, l[p.pos]? with
    | none, some t =>
      if t.kind == 3 then some (nd 1 line ⟨#[]⟩ t.k t.n t.t .nil, nextS p)
      else if t.kind == 1 then
        let p := nextS p
        if isS l p [40] then
          (prsR l f (.items [41]) (nextS p)).bind fun (x, p) =>
          some (nd 24 line t.s 0 0 ⟨#[]⟩ x, p)
        else some (nd 2 line t.s 0 0 ⟨#[]⟩ .nil, p)
      else if isS l p [123] then
        (prsR l f (.items [125]) (nextS p)).bind fun (x, p) =>
        some (ndL 25 line x, p)
      else if isS l p [40] then prsR l f (.within [41]) (nextS p)
      else if isS l p [36] then
        let p := nextS p
        let at_ := lineS l p
        let (s, p) := nameS l p
        some (ndL 22 line ((nd 1 line ⟨#[]⟩ 1 0 ⟨#[]⟩ .nil).app (nd 1 at_ ⟨#[]⟩ 2 0 s .nil)), p)
      else if isS l p [96] then prsR l f (.caught line) (nextS p)
      else some (nd0, failS l p)
    | _, _ => some (nd0, failS l p)
  | f + 1, .within e, p =>
    let p := downS p
    if p.err.isNone then
      (prsR l f .expr p).bind fun (x, p) =>
      some (x, mustS l (upS p) e)
    else some (nd0, mustS l (upS p) e)
  | f + 1, .caught line, p =>
    let p := downS p
    if p.err.isNone then
      (prsR l f .expr p).bind fun (x, p) =>
      let p := mustS l p [33]
      (prsR l f .codes p).bind fun (y, p) =>
      if isS l p [61, 62] then
        (prsR l f .expr (nextS p)).bind fun (z, p) =>
        some (ndL 29 line ((x.app y).app z), mustS l (upS p) [39])
      else some (ndL 29 line (x.app y), mustS l (upS p) [39])
    else some (ndL 29 line .nil, mustS l (upS p) [39])
  | f + 1, .block ends, p =>
    let line := lineS l p
    let p := downS p
    if p.err.isNone then
      (prsR l f (.blockL ends .nil) p).bind fun (x, p) =>
      some (ndL 52 line x, upS p)
    else some (ndL 52 line .nil, upS p)
  | f + 1, .blockL ends acc, p =>
    if p.err.isSome || ends.any (fun e => isS l p e) then some (acc, p)
    else if l.length ≤ p.pos then some (acc, failS l p)
    else
      (prsR l f .stmt p).bind fun (x, p) =>
      prsR l f (.blockL ends (acc.app x)) p
  | f + 1, .head, p => prsR l f (.within [41]) (mustS l p [40])
  | f + 1, .stmt, p =>
    let line := lineS l p
    if isS l p [98, 114, 101, 97, 107] then some (ndL 45 line .nil, mustS l (nextS p) [59])
    else if isS l p [99, 111, 110, 116, 105, 110, 117, 101] then some (ndL 46 line .nil, mustS l (nextS p) [59])
    else if isS l p [114, 101, 116, 117, 114, 110] then
      let p := nextS p
      if isS l p [59] then some (ndL 47 line .nil, mustS l p [59])
      else
        (prsR l f .expr p).bind fun (x, p) =>
        some (ndL 47 line x, mustS l p [59])
    else if isS l p [105, 102] then
      (prsR l f (.ifsL .nil) (nextS p)).bind fun (x, p) =>
      if isS l p K_else then
        (prsR l f (.block [K_endif]) (nextS p)).bind fun (y, p) =>
        some (ndL 41 line (x.app y), mustS l p K_endif)
      else some (ndL 41 line x, mustS l p K_endif)
    else if isS l p [102, 111, 114] then
      let (s, p) := nameS l (nextS p)
      let p := mustS l p [105, 110]
      if isS l p [91] then
        let p := downS (nextS p)
        if p.err.isNone then
          (prsR l f .expr p).bind fun (x, p) =>
          let p := mustS l p [46, 46]
          (prsR l f .expr p).bind fun (y, p) =>
          (prsR l f (.block [K_endfor]) (mustS l (upS p) [93])).bind fun (z, p) =>
          some (nd 43 line s 0 0 ⟨#[]⟩ ((x.app y).app z), mustS l p K_endfor)
        else
          (prsR l f (.block [K_endfor]) (mustS l (upS p) [93])).bind fun (z, p) =>
          some (nd 43 line s 0 0 ⟨#[]⟩ z, mustS l p K_endfor)
      else
        (prsR l f .head p).bind fun (x, p) =>
        (prsR l f (.block [K_endfor]) p).bind fun (z, p) =>
        some (nd 42 line s 0 0 ⟨#[]⟩ (x.app z), mustS l p K_endfor)
    else if isS l p [119, 104, 105, 108, 101] then
      (prsR l f .head (nextS p)).bind fun (x, p) =>
      (prsR l f (.block [K_endwhile]) p).bind fun (z, p) =>
      some (ndL 44 line (x.app z), mustS l p K_endwhile)
    else if isS l p [102, 111, 114, 107] then
      (prsR l f .head (nextS p)).bind fun (x, p) =>
      (prsR l f (.block [K_endfork]) p).bind fun (z, p) =>
      some (ndL 48 line (x.app z), mustS l p K_endfork)
    else if isS l p [116, 114, 121] then
      (prsR l f (.block [K_except, K_finally]) (nextS p)).bind fun (x, p) =>
      if isS l p K_finally then
        (prsR l f (.block [K_endtry]) (nextS p)).bind fun (y, p) =>
        some (ndL 51 line (x.app y), mustS l p K_endtry)
      else
        (prsR l f (.tryL .nil) p).bind fun (y, p) =>
        some (ndL 49 line (x.app y), mustS l p K_endtry)
    else
      (prsR l f .expr p).bind fun (x, p) =>
      some (ndL 40 x.line x, mustS l p [59])
  | f + 1, .ifsL acc, p =>
    (prsR l f .head p).bind fun (x, p) =>
    (prsR l f (.block [K_elseif, K_else, K_endif]) p).bind fun (y, p) =>
    let acc := (acc.app x).app y
    if isS l p K_elseif then prsR l f (.ifsL acc) (nextS p) else some (acc, p)
  | f + 1, .tryL acc, p =>
    if p.err.isSome || !isS l p K_except then some (acc, p)
    else
      let line := lineS l p
      let p := nextS p
      let (s, p) := if isS l p [40] then (⟨#[]⟩, p) else nameS l p
      let p := mustS l p [40]
      let p := downS p
      if p.err.isNone then
        (prsR l f .codes p).bind fun (x, p) =>
        (prsR l f (.block [K_except, K_endtry]) (mustS l (upS p) [41])).bind fun (y, p) =>
        prsR l f (.tryL (acc.app (nd 50 line s 0 0 ⟨#[]⟩ (x.app y)))) p
      else
        (prsR l f (.block [K_except, K_endtry]) (mustS l (upS p) [41])).bind fun (y, p) =>
        prsR l f (.tryL (acc.app (nd 50 line s 0 0 ⟨#[]⟩ y))) p
end Go.Proofs.YtjibjgokloondaaGreatDoor
namespace Go.Proofs.YtjibjgokloondaaGreatDoor
open Go.RowKit
set_option linter.unusedVariables false

/-- A word in the midst of a row. -/
structure TkIn (w : World) (g o : Nat) (t : Tok) (sa : Option Addr) (sc : Nat) : Prop where
  c0 : w.cell? ⟨g, o, none⟩ = some (.int .i64 t.kind)
  c1 : w.cell? ⟨g, o + 1, none⟩ = some (.int .i64 t.line)
  c2 : w.cell? ⟨g, o + 2, none⟩ = some (.string t.s)
  c3 : w.cell? ⟨g, o + 3, none⟩ = some (.int .i64 t.k)
  c4 : w.cell? ⟨g, o + 4, none⟩ = some (.int .i64 t.n)
  c5 : w.cell? ⟨g, o + 5, none⟩ = some (.string t.t)
  c6 : w.cell? ⟨g, o + 6, none⟩ = some (.slice sa 0 sc)
theorem TkIn.below {w w' : World} {g o B : Nat} {t : Tok} {sa : Option Addr} {sc : Nat} (h : TkIn w g o t sa sc) (hb : Below B w w') (hg : g < B) : TkIn w' g o t sa sc :=
  have hk : ∀ k, w'.cell? ⟨g, k, none⟩ = w.cell? ⟨g, k, none⟩ := fun k => hb.cell (p := ⟨g, k, none⟩) hg
  ⟨(hk _).trans h.c0, (hk _).trans h.c1, (hk _).trans h.c2, (hk _).trans h.c3, (hk _).trans h.c4, (hk _).trans h.c5, (hk _).trans h.c6⟩
end Go.Proofs.YtjibjgokloondaaGreatDoor
namespace Go.Proofs.YtjibjgokloondaaGreatDoor
open Go.RowKit Go.Lib
set_option linter.unusedVariables false

theorem pnode_info : (Tryz.prog.info? 31).map (fun i => (i.zero, i.size, i.bytes)) = some (some (.agg #[.int .i64 0, .int .i64 0, .string ⟨#[]⟩, .int .i64 0, .int .i64 0, .string ⟨#[]⟩, .slice none 0 0, .slice none 0 0]), 8, 112) := by kernel_rfl

/-- Blocks of a sort, but for one value's. -/
def SN (w : World) (D : Nat → Prop) (V : Value) : Nat → Prop := fun b => D b ∧ b < w.heap.size ∧ V.ownBlock ≠ some b
/-- A row of nodes of the call's own, all in blocks of a sort. -/
def OwnN (w : World) (D : Nat → Prop) (V : Value) (l : NL) : Prop := ∃ xs, w.ownsRow 0 31 8 V l.len xs ∧ (∀ g, V.ownBlock = some g → D g) ∧ NRow w (SN w D V) l xs
theorem OwnN.nil (w : World) (D : Nat → Prop) : OwnN w D (.slice none 0 0) .nil := ⟨[], World.ownsRow_nil _ _ _ _, fun g e => (by cases e), rfl⟩
theorem OwnN.form {w : World} {D : Nat → Prop} {V : Value} {l : NL} (h : OwnN w D V l) : ∃ (A : Option Addr) (c : Nat), V = .slice A l.len c := by
  obtain ⟨xs, h, _⟩ := h; exact own_form h
theorem OwnN.ge {w : World} {D : Nat → Prop} {V : Value} {l : NL} (h : OwnN w D V l) (k : Nat) (hk : V.ownBlock = some k) : D k ∧ k < w.heap.size := by
  obtain ⟨xs, ho, hD, _⟩ := h; exact ⟨hD k hk, (ho.lt k hk).2⟩
theorem OwnN.wide {w : World} {D D' : Nat → Prop} {V : Value} {l : NL} (h : OwnN w D V l) (hb : ∀ k, D k → k < w.heap.size → D' k) : OwnN w D' V l := by
  have hg := h.ge
  obtain ⟨xs, ho, hD, hx⟩ := h
  exact ⟨xs, ho, fun g hg' => hb g (hD g hg') (hg g hg').2, nrow_keep (fun _ _ => rfl) (fun b hb' => ⟨hb b hb'.1 hb'.2.1, hb'.2⟩) l xs hx⟩
/-- Kept, where all of its blocks are as they were. -/
theorem OwnN.keep {w w' : World} {D : Nat → Prop} {V : Value} {l : NL} (h : OwnN w D V l) (hw : ∀ b, D b → b < w.heap.size → w'.heap[b]? = w.heap[b]?) (hz : w.heap.size ≤ w'.heap.size) : OwnN w' D V l := by
  have hg := h.ge
  obtain ⟨xs, ho, hD, hx⟩ := h
  refine ⟨xs, ?_, hD, nrow_keep (fun b hb => hw b hb.1 hb.2.1) (fun b hb => ⟨hb.1, Nat.lt_of_lt_of_le hb.2.1 hz, hb.2.2⟩) l xs hx⟩
  obtain ⟨h1, h2⟩ := ho
  refine ⟨h1, ?_⟩
  rcases h2 with h2 | ⟨g, cap, cur, hv, hg0, hh, r⟩
  · exact .inl h2
  · have := hg g (by rw [hv]; rfl)
    exact .inr ⟨g, cap, cur, hv, hg0, (hw g this.1 this.2).trans hh, r⟩
theorem OwnN.grown {w w' : World} {D : Nat → Prop} {P : Nat} {V : Value} {l : NL} (h : OwnN w D V l) (hg : w.grownBy w' (some P)) (hP : ¬ D P) : OwnN w' D V l :=
  h.keep (fun b h1 h2 => hg.block b h2 (fun e => by injection e with e; subst e; exact hP h1)) hg.size
theorem OwnN.below {w w' : World} {D : Nat → Prop} {V : Value} {l : NL} (h : OwnN w D V l) (hg : Below w.heap.size w w') : OwnN w' D V l := h.keep (fun b h1 h2 => hg.block b h2) hg.size
/-- What it reads as. -/
theorem OwnN.kids {w : World} {D : Nat → Prop} {V : Value} {l : NL} (h : OwnN w D V l) : ∃ A c, V = .slice A l.len c ∧ l.len ≤ c ∧ (A = none → c = 0) ∧ RpN w (fun k => D k ∧ k < w.heap.size) l A := by
  have hl := h.ge
  obtain ⟨xs, ho, hD, hx⟩ := h
  have hx' := nrow_keep (w' := w) (S' := fun k => D k ∧ k < w.heap.size) (fun _ _ => rfl) (fun b hb => ⟨hb.1, hb.2.1⟩) l xs hx
  rcases ho.2 with ⟨rfl, h0⟩ | ⟨g, cap, cur, rfl, hbg, hg, hnc, hcm, hcs, ht⟩
  · have hl : l = .nil := by
      cases l with
      | nil => rfl
      | cons => simp [NL.len] at h0
    subst hl
    exact ⟨none, 0, rfl, Nat.le_refl _, fun _ => rfl, trivial⟩
  · refine ⟨some ⟨g, 0, none⟩, cap, rfl, hnc, (fun e => by cases e), rpn_of (S := fun k => D k ∧ k < w.heap.size) (hl g rfl) l xs 0 hx' (fun j u hu => ?_)⟩
    have h := ho.cells (g := g) rfl j u hu
    have e : (⟨g, 0, none⟩ : Addr).add j = ⟨g, 0 + j, none⟩ := by unfold Addr.add; split <;> simp_all
    rw [e] at h; exact h

/-- A node as a call gives it: its eight values; what it has is a row of the call's own. -/
def nd8 (op ln : Int) (s : ByteArray) (k n : Int) (t : ByteArray) (va : Option Addr) (vc : Nat) (V : Value) : Array Value := #[.int .i64 op, .int .i64 ln, .string s, .int .i64 k, .int .i64 n, .string t, .slice va 0 vc, V]
/-- One node's cells, as a row. -/
theorem OwnN.row1 {w : World} {D : Nat → Prop} {V : Value} {sub : NL} (h : OwnN w D V sub) (op ln : Int) (s : ByteArray) (k n : Int) (t : ByteArray) (va : Option Addr) (vc : Nat) :
    NRow w (fun k => D k ∧ k < w.heap.size) (nd op ln s k n t sub) (nd8 op ln s k n t va vc V).toList := by
  obtain ⟨A, c, rfl, hc, _, hr⟩ := h.kids
  exact ⟨va, vc, A, c, [], rfl, Nat.zero_le _, trivial, hc, hr, rfl⟩
/-- A row of some nodes laid anew. -/
theorem OwnN.lit {w : World} {D : Nat → Prop} {l : NL} {cs : Array Value} (hx : NRow w (fun k => D k ∧ k < w.heap.size) l cs.toList) (hb : D w.heap.size) (hl : l.len ≤ 1000000000000) :
    OwnN (w.alloc (.cells cs 31)) D (.slice (some ⟨w.heap.size, 0, none⟩) l.len l.len) l := by
  have hz : cs.size = l.len * 8 := by have := nrow_len l _ hx; simpa using this
  refine ⟨cs.toList, World.ownsRow_lit w cs l.len (Nat.zero_le _) (by unfold maxLen; omega) hz, fun g e => ?_, nrow_keep (fun b hb => Below.heap_alloc _ _ _ hb.2) (fun b hb => ⟨hb.1, by simp; omega, fun e => ?_⟩) l _ hx⟩
  · simp [Value.ownBlock] at e
    rw [← e]; exact hb
  · simp [Value.ownBlock] at e
    omega

/-- What an append to such a row is: the row, joined. -/
theorem OwnN.joined {w w' : World} {D : Nat → Prop} {V V' : Value} {a b : NL} {xs ys : List Value} (ho : w.ownsRow 0 31 8 V a.len xs) (hD : ∀ g, V.ownBlock = some g → D g) (hn : D w.heap.size) (hx : NRow w (SN w D V) a xs) (hy : NRow w (SN w D V) b ys)
    (ho' : w'.ownsRow 0 31 8 V' (a.len + b.len) (xs ++ ys)) (hg : w.grownBy w' V.ownBlock) (hob : V'.ownBlock = V.ownBlock ∨ V'.ownBlock = some w.heap.size) : OwnN w' D V' (a.app b) := by
  have hk : ∀ k, SN w D V k → w'.heap[k]? = w.heap[k]? := fun k hk => hg.block k hk.2.1 (fun e => hk.2.2 e.symm)
  have hS : ∀ k, SN w D V k → SN w' D V' k := fun k hk => ⟨hk.1, Nat.lt_of_lt_of_le hk.2.1 hg.size, fun e => by
    rcases hob with h | h
    · exact hk.2.2 (h.symm.trans e)
    · rw [h] at e; injection e with e; have := hk.2.1; omega⟩
  refine ⟨xs ++ ys, by rw [NL.len_app]; exact ho', fun g e => ?_, nrow_app a b xs ys (nrow_keep hk hS a xs hx) (nrow_keep hk hS b ys hy)⟩
  rcases hob with h | h
  · exact hD g (h.symm.trans e)
  · rw [h] at e; injection e with e; rw [← e]; exact hn

/-- append of nodes that lie somewhere to a row of the call's own, run. -/
theorem run_app_nodes {P : Program} {T ty : TypeId} {i : TypeInfo} {z : Value} (w : World) (ht : P.underlying T = some (.slice 31)) (hi : P.info? 31 = some i) (hz : i.zero = some z) (hsize : i.size = 8) (hby : i.bytes = 112) (hzs : z.cells.size = 8)
    {D : Nat → Prop} {V : Value} {a b : NL} (hV : OwnN w D V a) {A : Option Addr} {c : Nat} (hb : RpN w (SN w D V) b A) (hA : A = none → c = 0) (hl : a.len + b.len ≤ 1000000000000) (hn : D w.heap.size) :
    ∃ A' c' w', (Builtin.append_ #[T, T] ty #[V, .slice A b.len c]).run P w = .ok (.slice A' (a.len + b.len) c') w' ∧ OwnN w' D (.slice A' (a.len + b.len) c') (a.app b) ∧ w.grownBy w' V.ownBlock ∧
      ((Value.slice A' (a.len + b.len) c').ownBlock = V.ownBlock ∨ (Value.slice A' (a.len + b.len) c').ownBlock = some w.heap.size) := by
  obtain ⟨xs, ho, hD, hx⟩ := hV
  obtain ⟨ys, hy, hcell⟩ := nrow_of b A hb
  by_cases hN : A = none
  · subst hN
    have hb0 : b = .nil := by
      cases b with
      | nil => rfl
      | cons => obtain ⟨_, _, _, _, _, _, e, _⟩ := hb; cases e
    subst hb0
    obtain rfl : c = 0 := hA rfl
    obtain ⟨A', c', rfl⟩ := own_form ho
    refine ⟨A', c', w, ?_, ?_, ⟨rfl, rfl, rfl, Nat.le_refl _, fun _ _ _ => rfl⟩, .inl rfl⟩
    · have := run_append_owned_none (P := P) (w := w) 0 T ty _ i 8 ht hi _ a.len xs ho
      simpa [NL.len] using this
    · rw [NL.app_nil]
      exact ⟨xs, ho, hD, hx⟩
  · obtain ⟨ad, rfl⟩ : ∃ ad, A = some ad := by
      cases A with
      | none => exact absurd rfl hN
      | some ad => exact ⟨ad, rfl⟩
    have hnews : ∀ j u, ys[j]? = some u → w.cell? (ad.add j) = some u := by
      intro j u hu
      cases b with
      | nil => rw [show ys = [] from hy] at hu; simp at hu
      | cons =>
        obtain ⟨g, o, _, _, _, _, e, _⟩ := hb
        injection e with e
        subst e
        rw [show (⟨g, o, none⟩ : Addr).add j = ⟨g, o + j, none⟩ from by unfold Addr.add; split <;> simp_all]
        exact hcell g o rfl j u hu
    obtain ⟨V', w', hr, h2, h3, _, h5⟩ := run_append_own_at (P := P) w 0 T ty _ i z 8 112 ht hi hz hsize hby hzs (by decide) V a.len xs ho ad b.len c ys (nrow_len b ys hy) hnews (nrow_one b ys hy) (by unfold maxLen; omega) (by omega) (Nat.zero_le _)
    obtain ⟨A', c', rfl⟩ := own_form h2
    exact ⟨A', c', w', hr, OwnN.joined ho hD hn hx hy h2 h3 h5, h3, h5⟩
theorem RpN.sn {w : World} {D D' : Nat → Prop} {V : Value} {b : NL} {A : Option Addr} (h : RpN w (fun k => D' k ∧ k < w.heap.size) b A) (hB : ∀ k, D' k → k < w.heap.size → D k) (hV : ∀ g, V.ownBlock = some g → ¬ D' g) : RpN w (SN w D V) b A :=
  h.keep (fun _ _ => rfl) (fun k hk => ⟨hB k hk.1 hk.2, hk.2, fun e => hV k e hk.1⟩)

/-- The parser: its block, its words, how many of them the row can hold, where the errors lie. -/
structure PCtx where
  P : Nat
  A : Option Addr
  c : Nat
  l : List Tok
  ea : Nat → Addr
/-- The words lie below the parser. -/
def TksAt (w : World) (X : PCtx) : Prop := ∀ (j : Nat) (t : Tok), X.l[j]? = some t → ∃ (g : Nat) (sa : Option Addr) (sc : Nat), X.A = some ⟨g, 0, none⟩ ∧ g < X.P ∧ TkIn w g (7 * j) t sa sc
/-- What is amiss, in memory. -/
def ErrV (w : World) (X : PCtx) (ev : Value) : Option (Option Int) → Prop
  | none => ev = .nilIface
  | some none => ev = .iface 204 (.pointer (some (X.ea 112)))
  | some (some line) => ∃ A, X.P < A ∧ ev = .iface 58 (.pointer (some ⟨A, 0, none⟩)) ∧ w.heap[A]? = some (.cells #[.int .i64 line, .iface 204 (.pointer (some (X.ea 111)))] 61 (0, 0))
def PsAt (w : World) (X : PCtx) (pos : Nat) (deep : Int) (ev : Value) : Prop := w.heap[X.P]? = some (.cells #[.slice X.A X.l.length X.c, .int .i64 pos, .int .i64 deep, ev] 53 (0, 0))
structure PSt (w : World) (X : PCtx) (p : PS) : Prop where
  st : ∃ ev, PsAt w X p.pos p.deep ev ∧ ErrV w X ev p.err
  tk : TksAt w X
  er : ErrsAt w X.ea
  room : 24 < X.P
  pos : p.pos ≤ X.l.length
  len : X.l.length ≤ 1000000

section
variable {w w' : World} {X : PCtx} {p : PS}
theorem heap_lt {w : World} {g : Nat} {o : Obj} (h : w.heap[g]? = some o) : g < w.heap.size := by
  rcases Nat.lt_or_ge g w.heap.size with hlt | hge
  · exact hlt
  · rw [Array.getElem?_eq_none hge] at h; cases h
theorem PSt.lt (h : PSt w X p) : X.P < w.heap.size := by obtain ⟨ev, h, _⟩ := h.st; exact heap_lt h
/-- Kept, where all below the parser, its own block and what is amiss are as they were. -/
theorem PSt.keep (h : PSt w X p) (hw : ∀ b, b ≤ X.P → w'.heap[b]? = w.heap[b]?) (hA : ∀ (A : Nat) (line : Int), X.P < A → w.heap[A]? = some (.cells #[.int .i64 line, .iface 204 (.pointer (some (X.ea 111)))] 61 (0, 0)) → w'.heap[A]? = w.heap[A]?) (hz : w.heap.size ≤ w'.heap.size) : PSt w' X p := by
  obtain ⟨ev, h1, h2⟩ := h.st
  refine ⟨⟨ev, (hw _ (Nat.le_refl _)).trans h1, ?_⟩, fun j t hj => ?_, h.er.keep (fun b hb => hw b (by have := h.room; omega)) hz, h.room, h.pos, h.len⟩
  · revert h2
    cases p.err with
    | none => exact fun h => h
    | some e =>
      cases e with
      | none => exact fun h => h
      | some line => exact fun ⟨A, hA1, hA2, hA3⟩ => ⟨A, hA1, hA2, (hA A line hA1 hA3).trans hA3⟩
  · obtain ⟨g, sa, sc, e1, e2, e3⟩ := h.tk j t hj
    have hk : ∀ k, w'.cell? ⟨g, k, none⟩ = w.cell? ⟨g, k, none⟩ := fun k => World.cell?_of_block (w := w) (hw g (Nat.le_of_lt e2))
    exact ⟨g, sa, sc, e1, e2, ⟨(hk _).trans e3.c0, (hk _).trans e3.c1, (hk _).trans e3.c2, (hk _).trans e3.c3, (hk _).trans e3.c4, (hk _).trans e3.c5, (hk _).trans e3.c6⟩⟩
theorem PSt.below (h : PSt w X p) (hb : Below w.heap.size w w') : PSt w' X p := h.keep (fun b hb' => hb.block b (by have := h.lt; omega)) (fun A line _ hA => hb.block A (heap_lt hA)) hb.size
/-- An append to a row of nodes leaves the parser as it was. -/
theorem PSt.app {D : Nat → Prop} {V : Value} {l : NL} (h : PSt w X p) (ho : OwnN w D V l) (hP : ∀ k, D k → X.P < k) (hg : w.grownBy w' V.ownBlock) : PSt w' X p := by
  refine h.keep (fun b hb' => hg.block b (by have := h.lt; omega) (fun e => by have := hP b (ho.ge b e.symm).1; omega)) (fun A line _ hA => hg.block A (heap_lt hA) (fun e => ?_)) hg.size
  obtain ⟨xs, ho, _⟩ := ho
  rcases ho.2 with ⟨rfl, _⟩ | ⟨g, cap, cur, rfl, _, hh, _⟩
  · cases e
  · have e : A = g := by simpa [Value.ownBlock] using e
    subst e
    rw [hA] at hh
    injection hh with hh
    injection hh with _ hh _
    exact absurd hh (by decide)
end
/-- How a step of the parser's leaves the world. -/
structure Mvd (w w' : World) (X : PCtx) (p : PS) : Prop where
  st : PSt w' X p
  grown : w.grownBy w' (some X.P)
theorem Mvd.of {w : World} {X : PCtx} {p : PS} (h : PSt w X p) : Mvd w w X p := ⟨h, only_refl _ _⟩
theorem Mvd.trans {a b c : World} {X : PCtx} {p q : PS} (h : Mvd a b X p) (g : Mvd b c X q) : Mvd a c X q := ⟨g.st, only_trans h.grown g.grown⟩
theorem Mvd.below {a b c : World} {X : PCtx} {p : PS} (h : Mvd a b X p) (g : Below b.heap.size b c) : Mvd a c X p := ⟨h.st.below g, only_trans h.grown (only_below g _)⟩
theorem Mvd.drew {a b : World} {X : PCtx} {p : PS} (h : Mvd a b X p) : Mvd a b.drew X p := h.below (Below.drew (Below.refl _ _))
theorem Mvd.alloc {a b : World} {X : PCtx} {p : PS} (h : Mvd a b X p) (o : Obj) : Mvd a (b.alloc o) X p := h.below ((Below.refl _ _).alloc (Nat.le_refl _) o)
theorem Mvd.app {a w w' : World} {X : PCtx} {p : PS} {D : Nat → Prop} {V : Value} {l : NL} (h : Mvd a w X p) (ho : OwnN w D V l) (hP : ∀ k, D k → X.P < k) (hb : ∀ k, D k → a.heap.size ≤ k) (hg : w.grownBy w' V.ownBlock) : Mvd a w' X p :=
  ⟨h.st.app ho hP hg, ⟨hg.os.trans h.grown.os, hg.tape.trans h.grown.tape, hg.output.trans h.grown.output, Nat.le_trans h.grown.size hg.size, fun k hk hne => (hg.block k (Nat.lt_of_lt_of_le hk h.grown.size) (fun e => by have := hb k (ho.ge k e.symm).1; omega)).trans (h.grown.block k hk hne)⟩⟩
end Go.Proofs.YtjibjgokloondaaGreatDoor
