/- Contracts of the functions that the statement reaches, and the plain mathematics beneath: several texts joined. -/
import Derived.Test.YtggngahmafbihaaGreatDoorPwyB
import Derived.Laws.ResultCell
import Derived.Test.YtggngahmafbihaaGreatDoorPwyA
namespace Go.Proofs.YtggngahmafbihaaGreatDoor
open Go.RowKit Go.Lib
set_option linter.unusedVariables false

theorem VL.fit_app : ∀ a b : VL, a.fit → b.fit → (a.app b).fit
  | .nil, b, _, h => h
  | .cons _ _ _ _ r, b, h, h2 => ⟨h.1, h.2.1, h.2.2.1, VL.fit_app r b h.2.2.2 h2⟩

theorem strLoop_len (s : ByteArray) : ∀ (f i : Nat) (l : List UInt8), i ≤ s.size → l.length ≤ i → (strLoop s f i l).2.2.length ≤ (strLoop s f i l).1
  | 0, i, l, _, h => h
  | f + 1, i, l, hi, h => by
    by_cases h34 : pk s i = 34
    · rw [strLoop_end _ _ _ _ h34]; exact h
    by_cases h92 : pk s i = 92
    · by_cases hy : pk s (i + 1) = 34 ∨ pk s (i + 1) = 92
      · have hi2 : i + 1 < s.size := pk_lt (by rcases hy with e | e <;> rw [e] <;> decide)
        rw [strLoop_esc _ _ _ _ h92 hy]
        exact strLoop_len s f (i + 2) _ (by omega) (by simp; omega)
      · rw [strLoop_esc_bad _ _ _ _ h92 hy]; simp only; omega
    cases hp : prC (pk s i) with
    | false => rw [strLoop_bad _ _ _ _ h34 h92 hp]; exact h
    | true =>
      have hi2 : i < s.size := pk_lt (fun e => by rw [e] at hp; exact absurd hp (by decide))
      rw [strLoop_next _ _ _ _ h34 h92 hp]
      exact strLoop_len s f (i + 1) _ (by omega) (by simp; omega)

theorem strSp_len (s : ByteArray) (i : Nat) (h : i < s.size) : (strSp s i).2.2.length ≤ s.size := by
  have h1 := strLoop_len s (s.size + 1) (i + 1) [] (by omega) (by simp)
  have h2 := strLoop_place s (s.size + 1) (i + 1) [] (by omega)
  unfold strSp
  simp only
  omega

theorem val1_fit {k n : Int} {t : ByteArray} {sub : VL} (h1 : t.size ≤ 140737488351232) (h2 : sub.len ≤ 140737488351232) (h3 : sub.fit) : (val1 k n t sub).fit := ⟨h1, h2, h3, trivial⟩

mutual
theorem valSp_fit (s : ByteArray) (hs : s.size ≤ 1000000000) : ∀ (f i : Nat), i ≤ s.size → (valSp s f i).2.2.fit
  | 0, i, h => by rw [valSp]; trivial
  | f + 1, i, h => by
    rw [valSp]
    split
    · exact val1_fit (by decide) (by decide) trivial
    · split
      · exact val1_fit (by decide) (by decide) trivial
      · split
        · rename_i e
          have := strSp_len s i (pk_lt (by rw [e]; decide))
          refine val1_fit ?_ (by decide) trivial
          show ((strSp s i).2.2.toArray).size ≤ _
          rw [List.size_toArray]; omega
        · split
          · rename_i e
            have hi : i < s.size := pk_lt (by rw [e]; decide)
            split
            · exact val1_fit (by decide) (by decide) trivial
            · have h1 := lstSp_fit s hs f (i + 1) .nil (by omega) trivial (Nat.zero_le _)
              have h2 := lstSp_place s f (i + 1) .nil (by omega)
              exact val1_fit (by decide) (by have := h1.2; omega) h1.1
          · exact val1_fit (by decide) (by decide) trivial
theorem lstSp_fit (s : ByteArray) (hs : s.size ≤ 1000000000) : ∀ (f i : Nat) (acc : VL), i ≤ s.size → acc.fit → acc.len ≤ i → (lstSp s f i acc).2.2.fit ∧ (lstSp s f i acc).2.2.len ≤ s.size + 1
  | 0, i, acc, h, ha, hl => by rw [lstSp]; exact ⟨ha, by simp only; omega⟩
  | f + 1, i, acc, h, ha, hl => by
    have hv := valSp_fit s hs f i h
    have hp := valSp_place s f i h
    have hone := valSp_one s f i
    rw [lstSp]
    split
    · exact ⟨ha, by simp only; omega⟩
    · rename_i hok
      obtain ⟨k, n, t, sub, e⟩ := hone (by simpa using hok)
      have hf : (acc.app (valSp s f i).2.2).fit := VL.fit_app _ _ ha hv
      have hl2 : (acc.app (valSp s f i).2.2).len = acc.len + 1 := by rw [VL.len_app, e]; rfl
      split
      · rename_i e1
        have hi1 : (valSp s f i).1 < s.size := pk_lt (by rw [e1]; decide)
        split
        · rename_i e2
          have hi2 : (valSp s f i).1 + 1 < s.size := pk_lt (by rw [e2]; decide)
          exact lstSp_fit s hs f _ _ (by omega) hf (by omega)
        · exact ⟨hf, by simp only; omega⟩
      · split
        · exact ⟨hf, by simp only; omega⟩
        · exact ⟨hf, by simp only; omega⟩
end

theorem ret_val {a b : Value} (h : a = b) : Ending.returned a = .returned b := by rw [h]
theorem LfAt.new (W : World) (n : Int) : LfAt (W.alloc (.cells #[.int .i64 n] 3)) W.heap.size n := by unfold LfAt World.alloc; simp

set_option maxHeartbeats 1000000 in
theorem valid_c (k n : Int) (s : ByteArray) (sub : VL) (sa : Option Addr) (sc : Nat) (ea : Nat → Addr) (w : World) (he : ErrsAt w ea) (hs : s.size ≤ 140737488351232) (hl : sub.len ≤ 140737488351232) (hf : sub.fit) (hsc : sub.len ≤ sc)
    (hr : RpL w (fun b => b < w.heap.size) sub sa) :
    Calls Tryz.prog 130 #[.agg #[.int .i64 k, .int .i64 n, .string s, .slice sa sub.len sc]] w fun e w' => e = .returned (errV ea (walk1 k n s sub 1 4096).1) ∧ Below w.heap.size w w' := by
  have hroom := he.room
  obtain ⟨wa, hwa⟩ : ∃ wa, wa = (w.alloc (.cells #[.int .i64 k, .int .i64 n, .string s, .slice sa sub.len sc] 28)).alloc (.cells #[.int .i64 4096] 3) := ⟨_, rfl⟩
  have hb : Below w.heap.size w wa := by rw [hwa]; exact ((Below.refl _ _).alloc (Nat.le_refl _) _).alloc (by simp) _
  have hV : StB wa w.heap.size (.int .i64 k) (.int .i64 n) (.string s) (.slice sa sub.len sc) := by rw [hwa]; exact (StB.new w _ _ _ _).alloc _
  have hL : LfAt wa (w.heap.size + 1) 4096 := by rw [hwa]; have := LfAt.new (w.alloc (.cells #[.int .i64 k, .int .i64 n, .string s, .slice sa sub.len sc] 28)) 4096; simpa using this
  have hwz : wa.heap.size = w.heap.size + 2 := by rw [hwa]; simp
  have WC := Lib.hid (walk_c (sub.size + 1) k n s sub sa sc 1 4096 (w.heap.size + 1) ea wa (by omega) (he.below hb (by omega)) hL (by omega) hs hl hf hsc
    (hr.keep (fun b hlt => hb.block b hlt) (fun b hlt => ⟨by omega, by omega⟩)) (by omega) (by omega) (by omega) (by omega))
  have v0 := hV.c0; have v1 := hV.c1; have v2 := hV.c2; have v3 := hV.c3
  have HB := Lib.hid hb
  have HWA := Lib.hid hwa
  have HWZ := Lib.hid hwz
  rw [hwa] at v0 v1 v2 v3
  clear hb hV hL hwa hwz hr
  go_enter Tryz.func130, Tryz.ntmps130
  go_wp2_with fail
  rw [← HWA.out]
  refine WC.out.mono ?_
  rintro e w5 ⟨rfl, hl5, hg5⟩
  have HG := Lib.hid hg5
  clear hg5 hl5 HWA v0 v1 v2 v3
  by_cases hc : (walk1 k n s sub 1 4096).1 = 0
  · have HC := Lib.hid hc
    rw [hc, show errV ea 0 = Value.nilIface from rfl]
    clear hc
    go_wp2_with fail
    go_ret
    exact ⟨ret_val (by rw [HC.out]; rfl), HB.out.trans ⟨HG.out.os, HG.out.tape, HG.out.output, HG.out.size, fun b hb => HG.out.block b (by have := HWZ.out; omega) (fun e => by injection e with e; omega)⟩⟩
  · have HERR := Lib.hid (show errV ea (walk1 k n s sub 1 4096).1 = .iface 270 (.pointer (some (ea (walk1 k n s sub 1 4096).1))) by unfold errV; rw [if_neg hc])
    clear hc
    rw [HERR.out]
    go_wp2_with fail
    go_ret
    exact ⟨ret_val HERR.out.symm, HB.out.trans ⟨HG.out.os, HG.out.tape, HG.out.output, HG.out.size, fun b hb => HG.out.block b (by have := HWZ.out; omega) (fun e => by injection e with e; omega)⟩⟩
end Go.Proofs.YtggngahmafbihaaGreatDoor
namespace Go.Proofs.YtggngahmafbihaaGreatDoor
open Go.RowKit Go.Lib
set_option linter.unusedVariables false

/-- A struct of four cells and an error handed back. -/
theorem ret_cell4_tmp {fn : Func} {p u : Tmp} {Q : Ending → World → Prop} {act : Act} {w : World} (h : fn.results = #[.cell p 28, .tmp u]) (g : Nat) (hp : act.tmps.getD p undef = .pointer (some ⟨g, 0, none⟩)) (hd : act.defers = [])
    {a b c d : Value} (hS : StB w g a b c d) (hQ : Q (.returned (.tuple #[.agg #[a, b, c, d], act.tmps.getD u undef])) w) : bodyPost Tryz.prog fn Q .ret act w := by
  refine bodyPost_ret (v := .tuple #[.agg #[a, b, c, d], act.tmps.getD u undef]) ?_ hd hQ
  have c0 := hS.c0
  have c1 := hS.c1
  have c2 := hS.c2
  have c3 := hS.c3
  have hp' : (act.tmps[p]?).getD undef = .pointer (some ⟨g, 0, none⟩) := by simpa using hp
  simp [results, h, hp', go_sem, c0, c1, c2, c3]

/-- What the reader makes of a text. -/
def rdV (s : ByteArray) : Nat × Bool × VL := valSp s (2 * s.size + 2) 0
/-- It stops at a sign. -/
def rdBad (s : ByteArray) : Prop := ¬ ((rdV s).2.1 = true ∧ s.size ≤ (rdV s).1)

/-- What a call of Read shows. -/
def RdOut (ea : Nat → Addr) (s : ByteArray) (w : World) (e : Ending) (w' : World) : Prop :=
  Below w.heap.size w w' ∧
  ((rdBad s ∧ ∃ A, w.heap.size ≤ A ∧ w'.heap[A]? = some (.cells #[.int .i64 (rdV s).1, errV ea 111] 73 (0, 0)) ∧
      e = .returned (.tuple #[.agg #[.int .i64 0, .int .i64 0, .string ⟨#[]⟩, .slice none 0 0], .iface 70 (.pointer (some ⟨A, 0, none⟩))])) ∨
   (¬ rdBad s ∧ ∃ (k n : Int) (t : ByteArray) (sub : VL), (rdV s).2.2 = val1 k n t sub ∧
      (((walk1 k n t sub 1 4096).1 ≠ 0 ∧ e = .returned (.tuple #[.agg #[.int .i64 0, .int .i64 0, .string ⟨#[]⟩, .slice none 0 0], errV ea (walk1 k n t sub 1 4096).1])) ∨
       ((walk1 k n t sub 1 4096).1 = 0 ∧ ∃ (sa : Option Addr) (sc : Nat), sub.len ≤ sc ∧ RpL w' (fun b => w.heap.size ≤ b ∧ b < w'.heap.size) sub sa ∧
          e = .returned (.tuple #[.agg #[.int .i64 k, .int .i64 n, .string t, .slice sa sub.len sc], .nilIface])))))

theorem RdAt.new (W : World) (s : ByteArray) (i : Nat) (ok : Bool) : RdAt (W.alloc (.cells #[.string s, .int .i64 i, .bool ok] 181)) W.heap.size s i ok := by unfold RdAt World.alloc; simp

theorem RdBad.a {w w5 : World} (hb : Below w.heap.size w w5) (hz : w.heap.size < w5.heap.size) {a b c d : Value} (H : StB w5 w.heap.size a b c d) (o : Obj) (a' b' c' d' : Value) :
    let W' := (((((w5.setCell ⟨w.heap.size, 0, none⟩ a').setCell ⟨w.heap.size, 1, none⟩ b').setCell ⟨w.heap.size, 2, none⟩ c').setCell ⟨w.heap.size, 3, none⟩ d').alloc o).drew
    StB W' w.heap.size a' b' c' d' ∧ Below w.heap.size w W' ∧ W'.heap[w5.heap.size]? = some o := by
  refine ⟨(H.set4 a' b' c' d').alloc o, ?_, ?_⟩
  · refine Below.drew (Below.alloc (Below.setCell (Below.setCell (Below.setCell (Below.setCell hb ?_ _) ?_ _) ?_ _) ?_ _) ?_ _)
    · exact Nat.le_refl _
    · exact Nat.le_refl _
    · exact Nat.le_refl _
    · exact Nat.le_refl _
    · rw [size_set4]; omega
  · have h : ∀ W : World, (W.alloc o).drew.heap[W.heap.size]? = some o := fun W => by
      show (W.alloc o).heap[W.heap.size]? = some o
      unfold World.alloc; simp
    have := h ((((w5.setCell ⟨w.heap.size, 0, none⟩ a').setCell ⟨w.heap.size, 1, none⟩ b').setCell ⟨w.heap.size, 2, none⟩ c').setCell ⟨w.heap.size, 3, none⟩ d')
    rw [size_set4] at this; exact this
theorem RdBad.b {w w5 : World} (hb : Below w.heap.size w w5) (hz : w.heap.size < w5.heap.size) {a b c d : Value} (H : StB w5 w.heap.size a b c d) (o : Obj) (a' b' c' d' : Value) :
    let W' := (((((w5.alloc o).setCell ⟨w.heap.size, 0, none⟩ a').setCell ⟨w.heap.size, 1, none⟩ b').setCell ⟨w.heap.size, 2, none⟩ c').setCell ⟨w.heap.size, 3, none⟩ d').drew
    StB W' w.heap.size a' b' c' d' ∧ Below w.heap.size w W' ∧ W'.heap[w5.heap.size]? = some o := by
  refine ⟨(H.alloc o).set4 a' b' c' d', ?_, ?_⟩
  · refine Below.drew (Below.setCell (Below.setCell (Below.setCell (Below.setCell (Below.alloc hb (by omega) _) ?_ _) ?_ _) ?_ _) ?_ _)
    · exact Nat.le_refl _
    · exact Nat.le_refl _
    · exact Nat.le_refl _
    · exact Nat.le_refl _
  · show ((((((w5.alloc o).setCell ⟨w.heap.size, 0, none⟩ a').setCell ⟨w.heap.size, 1, none⟩ b').setCell ⟨w.heap.size, 2, none⟩ c').setCell ⟨w.heap.size, 3, none⟩ d').heap[w5.heap.size]?) = _
    rw [heap_set4 _ _ _ _ _ _ _ (by omega)]; unfold World.alloc; simp
theorem RdOut.bad {ea : Nat → Addr} {s : ByteArray} {w W' : World} {at_ A : Nat} {ok : Bool} {v : VL} (hq : (at_, ok, v) = rdV s) (hbad : ¬ (ok = true ∧ s.size ≤ at_)) (hb : Below w.heap.size w W') (hA : w.heap.size ≤ A)
    (h : W'.heap[A]? = some (.cells #[.int .i64 at_, .iface 270 (.pointer (some (ea 111)))] 73 (0, 0))) :
    RdOut ea s w (.returned (.tuple #[.agg #[.int .i64 0, .int .i64 0, .string ⟨#[]⟩, .slice none 0 0], .iface 70 (.pointer (some ⟨A, 0, none⟩))])) W' := by
  refine ⟨hb, .inl ⟨by unfold rdBad; rw [← hq]; exact hbad, A, hA, ?_, rfl⟩⟩
  rw [← hq]; exact h

theorem StB.below {w w' : World} {g : Nat} {a b c d : Value} {B : Nat} (h : StB w g a b c d) (hb : Below B w w') (hB : g < B) : StB w' g a b c d := (hb.block g hB).trans h
theorem below_set4 {w w' : World} {B : Nat} (h : Below B w w') {g : Nat} (hg : B ≤ g) (a b c d : Value) :
    Below B w ((((w'.setCell ⟨g, 0, none⟩ a).setCell ⟨g, 1, none⟩ b).setCell ⟨g, 2, none⟩ c).setCell ⟨g, 3, none⟩ d) :=
  Below.setCell (Below.setCell (Below.setCell (Below.setCell h hg _) hg _) hg _) hg _
theorem below_le' {B B' : Nat} {w w' : World} (h : Below B w w') (hb : B' ≤ B) : Below B' w w' := ⟨h.os, h.tape, h.output, h.size, fun k hk => h.block k (by omega)⟩

set_option maxRecDepth 100000 in
set_option maxHeartbeats 4000000 in
theorem read_c (s : ByteArray) (ea : Nat → Addr) (w : World) (he : ErrsAt w ea) (hs : s.size ≤ 1000000000) :
    Calls Tryz.prog 123 #[.string s] w (RdOut ea s w) := by
  have hroom := he.room
  obtain ⟨q, hq⟩ : ∃ q, q = rdV s := ⟨_, rfl⟩
  obtain ⟨wa, hwa⟩ : ∃ wa, wa = (w.alloc (.cells #[.int .i64 0, .int .i64 0, .string ⟨#[]⟩, .slice none 0 0] 28)).alloc (.cells #[.string s, .int .i64 0, .bool true] 181) := ⟨_, rfl⟩
  have hB2 : StB wa w.heap.size (.int .i64 0) (.int .i64 0) (.string ⟨#[]⟩) (.slice none 0 0) := by rw [hwa]; exact (StB.new w _ _ _ _).alloc _
  have hb : Below w.heap.size w wa := by rw [hwa]; exact ((Below.refl _ _).alloc (Nat.le_refl _) _).alloc (by simp) _
  have hwz : wa.heap.size = w.heap.size + 2 := by rw [hwa]; simp
  have hR : RdAt wa (w.heap.size + 1) s 0 true := by
    rw [hwa]; have h := RdAt.new (w.alloc (.cells #[.int .i64 0, .int .i64 0, .string ⟨#[]⟩, .slice none 0 0] 28)) s 0 true
    rw [World.size_alloc] at h; exact h
  have V := Lib.hid (value_c (2 * s.size + 2) (w.heap.size + 1) s 0 wa hR hs (by omega) (by omega))
  rw [show valSp s (2 * s.size + 2) 0 = q from hq.symm] at V
  have HB := Lib.hid hb
  have HW := Lib.hid hwa
  have HZ := Lib.hid hwz
  have H2 := Lib.hid hB2
  have HE := Lib.hid he
  have HQ := Lib.hid hq
  obtain ⟨at_, ok, v⟩ := q
  clear hb hwz hB2 hR hwa hq
  go_enter Tryz.func123, Tryz.ntmps123
  go_wp2_with fail
  rw [← HW.out]
  refine V.out.mono ?_
  rintro e w2 ⟨vk, vn, vt, va, vl, vc, rfl, hr2, hval⟩
  clear V HW
  have hg := hr2.grown
  have hz2 : w.heap.size + 2 ≤ w2.heap.size := by have := hg.size; have := HZ.out; omega
  have hr5 := hr2.alloc (.cells #[.int .i64 vk, .int .i64 vn, .string vt, .slice va vl vc] 28)
  have hV5 := StB.new w2 (.int .i64 vk) (.int .i64 vn) (.string vt) (.slice va vl vc)
  have h25 : StB _ w.heap.size _ _ _ _ := (H2.out.only hg (by intro e; injection e with e; omega)).alloc (.cells #[.int .i64 vk, .int .i64 vn, .string vt, .slice va vl vc] 28)
  have r1 := hr5.at_.c1; have r2 := hr5.at_.c2
  have HR5 := Lib.hid hr5
  have HV5 := Lib.hid hV5
  have H25 := Lib.hid h25
  have HVAL := Lib.hid hval
  clear hval hr5 hV5 h25 hr2 hg
  have hb5 : Below w.heap.size w (w2.alloc (.cells #[.int .i64 vk, .int .i64 vn, .string vt, .slice va vl vc] 28)) := by
    have hg5 := HR5.out.grown
    exact HB.out.trans ⟨hg5.os, hg5.tape, hg5.output, hg5.size, fun b hb => hg5.block b (by have := HZ.out; omega) (fun e => by injection e with e; omega)⟩
  have he5 := (HE.out.below hb5 (by omega)).syn
  have HE5 := Lib.hid (HE.out.below hb5 (by omega))
  have HB5 := Lib.hid hb5
  have k0 := H25.out.c0; have k1 := H25.out.c1; have k2 := H25.out.c2; have k3 := H25.out.c3
  have f0 := H25.out.fr 0; have f1 := H25.out.fr 1; have f2 := H25.out.fr 2; have f3 := H25.out.fr 3
  clear hb5
  have hz5 : w.heap.size < (w2.alloc (.cells #[.int .i64 vk, .int .i64 vn, .string vt, .slice va vl vc] 28)).heap.size := by simp only [World.size_alloc]; omega
  by_cases hbad : ok = true ∧ s.size ≤ at_
  · obtain ⟨rfl, hge⟩ := hbad
    obtain ⟨sub, hv, rfl, hsc, hrep⟩ := HVAL.out rfl
    clear HVAL
    replace hv : v = val1 vk vn vt sub := hv
    have hfit : v.fit := by have := valSp_fit s (by omega) (2 * s.size + 2) 0 (by omega); rw [show valSp s (2 * s.size + 2) 0 = (at_, true, v) from HQ.out.symm] at this; exact this
    rw [hv] at hfit
    have hd2 : decide (at_ < s.size) = false := by simp; exact hge
    have hd : decide ((at_ : Int) < (s.size : Int)) = false := by simp; exact hge
    have hrep5 : RpL (w2.alloc (.cells #[.int .i64 vk, .int .i64 vn, .string vt, .slice va sub.len vc] 28)) (fun b => wa.heap.size ≤ b ∧ b < w2.heap.size) sub va :=
      hrep.keep (fun b hb => Below.heap_alloc w2 _ b hb.2) (fun b hb => hb)
    obtain ⟨w5, hw5⟩ : ∃ w5, w5 = w2.alloc (.cells #[.int .i64 vk, .int .i64 vn, .string vt, .slice va sub.len vc] 28) := ⟨_, rfl⟩
    have HS5 := Lib.hid (show w2.heap.size < w5.heap.size by rw [hw5]; simp)
    rw [← hw5] at HV5 H25 HB5 HE5 hrep5 hz5
    have HW5 := Lib.hid hw5
    have VC := Lib.hid (valid_c vk vn vt sub va vc ea w5 HE5.out hfit.1 hfit.2.1 hfit.2.2.1 hsc (hrep5.keep (fun b _ => rfl) (fun b hb => by have := hb.2; have := HS5.out; omega)))
    have HREP := Lib.hid hrep5
    have HSC := Lib.hid hsc
    have HNB := Lib.hid (show ¬ rdBad s by intro h; apply h; rw [← HQ.out]; exact ⟨rfl, hge⟩)
    have HVV := Lib.hid (show (rdV s).2.2 = val1 vk vn vt sub by rw [← HQ.out]; exact hv)
    have v0 := HV5.out.c0; have v1 := HV5.out.c1; have v2 := HV5.out.c2; have v3 := HV5.out.c3
    rw [hw5] at v0 v1 v2 v3
    clear hw5 hrep hrep5 hsc hv hfit hge
    go_wp2_with fail
    rw [← HW5.out]
    refine VC.out.mono ?_
    rintro e w6 ⟨rfl, hb6⟩
    have HB6 := Lib.hid hb6
    have HV6 := Lib.hid (HV5.out.below hb6 (by have := HS5.out; omega))
    have H26 := Lib.hid (H25.out.below hb6 (by have := HS5.out; omega))
    clear hb6 v0 v1 v2 v3 k0 k1 k2 k3 f0 f1 f2 f3 r1 r2 he5 HW5 VC
    have v0 := HV6.out.c0; have v1 := HV6.out.c1; have v2 := HV6.out.c2; have v3 := HV6.out.c3
    have k0 := H26.out.c0; have k1 := H26.out.c1; have k2 := H26.out.c2; have k3 := H26.out.c3
    have f0 := H26.out.fr 0; have f1 := H26.out.fr 1; have f2 := H26.out.fr 2; have f3 := H26.out.fr 3
    by_cases hc : (walk1 vk vn vt sub 1 4096).1 = 0
    · have HC := Lib.hid hc
      rw [hc, show errV ea 0 = Value.nilIface from rfl]
      clear hc
      go_wp2_with fail
      refine ret_cell4_tmp Tryz.results123 w.heap.size rfl rfl (H26.out.set4 _ _ _ _) ?_
      refine ⟨below_set4 (HB5.out.trans (below_le' HB6.out (by omega))) (Nat.le_refl _) _ _ _ _, .inr ⟨HNB.out, vk, vn, vt, sub, HVV.out, .inr ⟨HC.out, va, vc, HSC.out, ?_, rfl⟩⟩⟩
      exact HREP.out.keep (fun b hb => by rw [heap_set4 _ _ _ _ _ _ _ (by have := hb.1; have := HZ.out; omega)]; exact HB6.out.block b (by have := hb.2; have := HS5.out; omega))
        (fun b hb => ⟨by have := hb.1; have := HZ.out; omega, by rw [size_set4]; have := HB6.out.size; have := hb.2; have := HS5.out; omega⟩)
    · have HC := Lib.hid hc
      have HERR := Lib.hid (show errV ea (walk1 vk vn vt sub 1 4096).1 = .iface 270 (.pointer (some (ea (walk1 vk vn vt sub 1 4096).1))) by unfold errV; rw [if_neg hc])
      clear hc
      rw [HERR.out]
      go_wp2_with fail
      refine ret_cell4_tmp Tryz.results123 w.heap.size rfl rfl (H26.out.set4 _ _ _ _) ?_
      exact ⟨below_set4 (HB5.out.trans (below_le' HB6.out (by omega))) (Nat.le_refl _) _ _ _ _, .inr ⟨HNB.out, vk, vn, vt, sub, HVV.out, .inl ⟨HC.out, by rw [HERR.out]; rfl⟩⟩⟩
  have HBAD := Lib.hid hbad
  have H26 := Lib.hid (H25.out.alloc (.cells #[.int .i64 at_, .iface 270 (.pointer (some (ea 111)))] 73))
  have m0 := H26.out.c0; have m1 := H26.out.c1; have m2 := H26.out.c2; have m3 := H26.out.c3
  have n0 := H26.out.fr 0; have n1 := H26.out.fr 1; have n2 := H26.out.fr 2; have n3 := H26.out.fr 3
  cases ok with
  | false =>
    clear hbad
    go_wp2_with fail
    go_region
    · go_wp2_with fail
      have hA := RdBad.b HB5.out hz5 H25.out (.cells #[.int .i64 at_, .iface 270 (.pointer (some (ea 111)))] 73) (.int .i64 0) (.int .i64 0) (.string ⟨#[]⟩) (.slice none 0 0)
      have hA3 := hA.2.2
      rw [World.size_alloc] at hA3
      refine ret_cell4_tmp Tryz.results123 w.heap.size rfl rfl hA.1 ?_
      exact RdOut.bad HQ.out HBAD.out hA.2.1 (by omega) hA3
    · go_wp2_with fail
      have hA := RdBad.a HB5.out hz5 H25.out (.cells #[.int .i64 at_, .iface 270 (.pointer (some (ea 111)))] 73) (.int .i64 0) (.int .i64 0) (.string ⟨#[]⟩) (.slice none 0 0)
      have hA3 := hA.2.2
      rw [World.size_alloc] at hA3
      refine ret_cell4_tmp Tryz.results123 w.heap.size rfl rfl hA.1 ?_
      exact RdOut.bad HQ.out HBAD.out hA.2.1 (by omega) hA3
  | true =>
    have hlt : at_ < s.size := by
      rcases Nat.lt_or_ge at_ s.size with h | h
      · exact h
      · exact absurd ⟨rfl, h⟩ hbad
    have hd : decide ((at_ : Int) < (s.size : Int)) = true := by simp; exact hlt
    clear hbad
    go_wp2_with fail
    go_region
    · go_wp2_with fail
      have hA := RdBad.b HB5.out hz5 H25.out (.cells #[.int .i64 at_, .iface 270 (.pointer (some (ea 111)))] 73) (.int .i64 0) (.int .i64 0) (.string ⟨#[]⟩) (.slice none 0 0)
      have hA3 := hA.2.2
      rw [World.size_alloc] at hA3
      refine ret_cell4_tmp Tryz.results123 w.heap.size rfl rfl hA.1 ?_
      exact RdOut.bad HQ.out (fun h => HBAD.out ⟨trivial, h.2⟩) hA.2.1 (by omega) hA3
    · go_wp2_with fail
      have hA := RdBad.a HB5.out hz5 H25.out (.cells #[.int .i64 at_, .iface 270 (.pointer (some (ea 111)))] 73) (.int .i64 0) (.int .i64 0) (.string ⟨#[]⟩) (.slice none 0 0)
      have hA3 := hA.2.2
      rw [World.size_alloc] at hA3
      refine ret_cell4_tmp Tryz.results123 w.heap.size rfl rfl hA.1 ?_
      exact RdOut.bad HQ.out (fun h => HBAD.out ⟨trivial, h.2⟩) hA.2.1 (by omega) hA3
end Go.Proofs.YtggngahmafbihaaGreatDoor
namespace Go.Proofs.YtggngahmafbihaaGreatDoor
open Go.RowKit Go.Lib
set_option linter.unusedVariables false

end Go.Proofs.YtggngahmafbihaaGreatDoor
