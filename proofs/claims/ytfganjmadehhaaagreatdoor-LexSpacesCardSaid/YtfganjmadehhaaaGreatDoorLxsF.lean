/- Contracts of the functions that the statement reaches, and the plain mathematics beneath: several texts joined. -/
import Derived.Test.YtfganjmadehhaaaGreatDoorLxsB
import Derived.Deep.RegionHeld3
import Derived.LaidEql
import Derived.Test.YtfganjmadehhaaaGreatDoorLxsE
import Derived.Stop.Asserts
import Derived.Handy
import Derived.Test.YtfganjmadehhaaaGreatDoorLxsD
import Derived.Test.YtfganjmadehhaaaGreatDoorLxsC
import Derived.StillTailTactics
import Derived.Test.YtfganjmadehhaaaGreatDoorLxsA
namespace Go.Proofs.YtfganjmadehhaaaGreatDoor
open Go.RowKit Go.Lib
set_option linter.unusedVariables false

/-- The sentinels' variables, in their order. -/
def seeG : List Nat := [5, 6, 7, 0, 4, 8, 9, 10, 11,
  12, 3, 13, 14, 15, 16, 17, 18]
/-- All of api's errors lie where they are told to, each in a place of its own. -/
structure SeesAt (w : World) (ea : Nat → Addr) : Prop where
  at_ : ∀ k, k < 17 → w.cell? ⟨seeG.getD k 0, 0, none⟩ = some (.iface 199 (.pointer (some (ea (101 + k)))))
  row : ∀ k, k < 17 → ∃ c t, w.heap[(ea (101 + k)).block]? = some (.cells c t (0, 0))
  apart : ∀ i j, i < 17 → j < 17 → ea (101 + i) = ea (101 + j) → i = j
  room : 24 < w.heap.size

theorem seeG_small : ∀ k : Fin 17, seeG.getD k.val 0 < 24 := by decide
theorem SeesAt.below {w w' : World} {ea : Nat → Addr} (h : SeesAt w ea) (hb : Below w.heap.size w w') : SeesAt w' ea := by
  have hlt : ∀ k, k < 17 → (ea (101 + k)).block < w.heap.size := fun k hk => by
    obtain ⟨c, t, h1⟩ := h.row k hk
    rcases Nat.lt_or_ge (ea (101 + k)).block w.heap.size with hlt | hge
    · exact hlt
    · rw [Array.getElem?_eq_none hge] at h1; cases h1
  have hroom := h.room
  refine ⟨fun k hk => ?_, fun k hk => ?_, h.apart, by have := hb.size; omega⟩
  · have hs := seeG_small ⟨k, hk⟩
    simp only at hs
    exact (World.cell?_of_block (w := w) (hb.block (seeG.getD k 0) (by omega))).trans (h.at_ k hk)
  · obtain ⟨c, t, h1⟩ := h.row k hk
    exact ⟨c, t, (hb.block _ (hlt k hk)).trans h1⟩
theorem SeesAt.errs {w : World} {ea : Nat → Addr} (h : SeesAt w ea) : ErrsAt w ea :=
  ⟨h.at_ 10 (by decide), h.at_ 11 (by decide), h.at_ 3 (by decide), h.at_ 4 (by decide), h.at_ 2 (by decide), h.room⟩

theorem info_part {P : Program} {t : TypeId} {α : Type} {f : TypeInfo → α} {b : α} (h : (P.info? t).map f = some b) : ∃ i, P.info? t = some i ∧ f i = b := by
  cases hq : P.info? t with
  | none => rw [hq] at h; cases h
  | some i => rw [hq] at h; exact ⟨i, rfl, Option.some.inj h⟩

set_option maxRecDepth 100000 in
set_option maxHeartbeats 400000 in
theorem alike_yes (a : Addr) (w : World) :
    Calls Tryz.prog 100 #[.iface 199 (.pointer (some a)), .iface 199 (.pointer (some a))] w fun e w' => e = .returned (.bool true) ∧ w = w' := by
  obtain ⟨i, hi, hic⟩ := info_part (P := Tryz.prog) (t := 199) (f := fun i => i.comparable) (b := true) (by kernel_rfl)
  obtain ⟨j, hj, hjc⟩ := info_part (P := Tryz.prog) (t := 201) (f := fun i => i.size) (b := 1) (by kernel_rfl)
  have he := run_eql_iface_ptr_same (P := Tryz.prog) (ti := 27) w a Tryz.underlying27 Tryz.underlying199 hi hic hj
  clear hi hic hj hjc
  go_enter Tryz.func100, Tryz.ntmps100
  go_wp2
  go_ret
  exact ⟨rfl, rfl⟩
set_option maxRecDepth 100000 in
set_option maxHeartbeats 400000 in
theorem alike_no (a b : Addr) (w : World) {ca cb : Array Value} {ta tb : TypeId} (hne : a ≠ b) (ha : w.heap[a.block]? = some (.cells ca ta (0, 0))) (hb : w.heap[b.block]? = some (.cells cb tb (0, 0))) :
    Calls Tryz.prog 100 #[.iface 199 (.pointer (some a)), .iface 199 (.pointer (some b))] w fun e w' => e = .returned (.bool false) ∧ w = w' := by
  obtain ⟨i, hi, hic⟩ := info_part (P := Tryz.prog) (t := 199) (f := fun i => i.comparable) (b := true) (by kernel_rfl)
  obtain ⟨j, hj, hjc⟩ := info_part (P := Tryz.prog) (t := 201) (f := fun i => i.size) (b := 1) (by kernel_rfl)
  have he := run_eql_iface_ptr_other (P := Tryz.prog) (ti := 27) w Tryz.underlying27 Tryz.underlying199 hi hic hj (by rw [hjc]; decide) hne ha hb
  clear ha hb hne hi hic hj hjc
  go_enter Tryz.func100, Tryz.ntmps100
  go_wp2
  go_ret
  exact ⟨rfl, rfl⟩

/-- The sentinels in a row. -/
def seeV (ea : Nat → Addr) : Array Value := #[.iface 199 (.pointer (some (ea 101))), .iface 199 (.pointer (some (ea 102))), .iface 199 (.pointer (some (ea 103))), .iface 199 (.pointer (some (ea 104))), .iface 199 (.pointer (some (ea 105))),
  .iface 199 (.pointer (some (ea 106))), .iface 199 (.pointer (some (ea 107))), .iface 199 (.pointer (some (ea 108))), .iface 199 (.pointer (some (ea 109))), .iface 199 (.pointer (some (ea 110))), .iface 199 (.pointer (some (ea 111))),
  .iface 199 (.pointer (some (ea 112))), .iface 199 (.pointer (some (ea 113))), .iface 199 (.pointer (some (ea 114))), .iface 199 (.pointer (some (ea 115))), .iface 199 (.pointer (some (ea 116))), .iface 199 (.pointer (some (ea 117)))]
theorem seeV_get (ea : Nat → Addr) : ∀ k, k < 17 → (seeV ea)[k]? = some (.iface 199 (.pointer (some (ea (101 + k))))) := by
  intro k hk
  match k, hk with
  | 0, _ | 1, _ | 2, _ | 3, _ | 4, _ | 5, _ | 6, _ | 7, _ | 8, _ | 9, _ | 10, _ | 11, _ | 12, _ | 13, _ | 14, _ | 15, _ | 16, _ => rfl
  | n + 17, h => exact absurd h (by omega)
set_option maxRecDepth 100000 in
set_option maxHeartbeats 1000000 in
theorem sentinels_c (ea : Nat → Addr) (w : World) (h : SeesAt w ea) :
    Calls Tryz.prog 99 #[] w fun e w' => e = .returned (.slice (some ⟨w.heap.size, 0, none⟩) 17 17) ∧ w' = w.alloc (.cells (seeV ea) 27) := by
  have h0 := h.at_ 0 (by decide); have h1 := h.at_ 1 (by decide); have h2 := h.at_ 2 (by decide); have h3 := h.at_ 3 (by decide); have h4 := h.at_ 4 (by decide); have h5 := h.at_ 5 (by decide)
  have h6 := h.at_ 6 (by decide); have h7 := h.at_ 7 (by decide); have h8 := h.at_ 8 (by decide); have h9 := h.at_ 9 (by decide); have h10 := h.at_ 10 (by decide); have h11 := h.at_ 11 (by decide)
  have h12 := h.at_ 12 (by decide); have h13 := h.at_ 13 (by decide); have h14 := h.at_ 14 (by decide); have h15 := h.at_ 15 (by decide); have h16 := h.at_ 16 (by decide)
  simp only [seeG, List.getD_cons_zero, List.getD_cons_succ] at h0 h1 h2 h3 h4 h5 h6 h7 h8 h9 h10 h11 h12 h13 h14 h15 h16
  clear h
  go_enter Tryz.func99, Tryz.ntmps99
  go_wp2
  go_ret
  exact ⟨rfl, rfl⟩

set_option maxRecDepth 100000 in
set_option maxHeartbeats 2000000 in
theorem sentinel_c (ea : Nat → Addr) (c : Nat) (w : World) (h : SeesAt w ea) (hc : c < 17) :
    Calls Tryz.prog 77 #[.iface 199 (.pointer (some (ea (101 + c))))] w fun e w' => e = .returned (.int .i64 (101 + (c : Int))) ∧ Below w.heap.size w w' := by
  have hs := sentinels_c ea w h
  obtain ⟨w1, hw1⟩ : ∃ w1, w1 = w.alloc (.cells (seeV ea) 27) := ⟨_, rfl⟩
  have hb1 : Below w.heap.size w w1 := by rw [hw1]; exact (Below.refl _ _).alloc (Nat.le_refl _) _
  have h1 := h.below hb1
  have hcell : ∀ k, k < 17 → w1.cell? ⟨w.heap.size, k, none⟩ = some (.iface 199 (.pointer (some (ea (101 + k))))) := by
    intro k hk
    rw [hw1, World.cell?_alloc_at _ _ _ _ rfl]
    exact seeV_get ea k hk
  rw [← hw1] at hs
  have SC := Lib.hid (hs.mono (fun e w' ⟨he, hw⟩ => (⟨he, hw.symm⟩ : e = _ ∧ w1 = w')))
  have HC := Lib.hid hcell
  have HB := Lib.hid hb1
  have H1 := Lib.hid h1
  have AY := Lib.hid (alike_yes (ea (101 + c)) w1)
  have AN := Lib.hid (fun k (hk : k < 17) (hne : c ≠ k) => by
    obtain ⟨ca, ta, ha⟩ := h1.row c hc
    obtain ⟨cb, tb, hb⟩ := h1.row k hk
    exact alike_no (ea (101 + c)) (ea (101 + k)) w1 (fun e => hne (h1.apart c k hc hk e)) ha hb)
  clear hs hb1 h1 hcell h
  go_enter Tryz.func77, Tryz.ntmps77
  go_wp2_with fail
  refine SC.out.mono ?_
  rintro e w' ⟨rfl, rfl⟩
  clear SC hw1
  go_wp2_with fail
  go_loop [4] (fun i => ∃ k : Nat, k ≤ c ∧ i = .int .i64 k) (fun i => 17 - (intOf i).toNat)
  case atStart => exact ⟨0, Nat.zero_le _, rfl⟩
  case round =>
    obtain ⟨k, hk, rfl⟩ := hrel
    have hk17 : k < 17 := by omega
    have hcell := HC.out k hk17
    by_cases hlt : c = k
    · subst hlt
      have ht : ((101 : Int) + (c : Int)) ≤ 117 := by omega
      go_wp2_with fail
      refine AY.out.mono ?_
      rintro e w' ⟨rfl, rfl⟩
      go_wp2_with fail
      go_ret
      exact ⟨rfl, HB.out⟩
    · have AN1 := Lib.hid (AN.out k hk17 hlt)
      have hk2 : k + 1 ≤ c := by omega
      clear hlt
      go_wp2_with fail
      refine AN1.out.mono ?_
      rintro e w' ⟨rfl, rfl⟩
      go_wp2_with fail
      go_round
      case rel => exact ⟨k + 1, hk2, by go_num⟩
      case measure => simp [intOf]; omega
end Go.Proofs.YtfganjmadehhaaaGreatDoor
namespace Go.Proofs.YtfganjmadehhaaaGreatDoor
open Go.RowKit Go.Lib
set_option linter.unusedVariables false

def strRw (i j : Nat) (line : Int) : Nat ⊕ ByteArray → WR
  | .inl e => .bad e
  | .inr t => .word (j - i) ⟨3, line, ⟨#[]⟩, 2, 0, t⟩
def strRq (s : ByteArray) (i : Nat) (line : Int) : Option Nat → WR
  | none => .bad 111
  | some j => strRw i j line (strW (s.extract i j))
def strR (s : ByteArray) (i : Nat) (line : Int) : WR := strRq s i line (quoEnd s (s.size + 1) (i + 1))
theorem wordR_str {s : ByteArray} {i : Nat} {line : Int} (h : pk s i = 34) : wordR s i line = strR s i line := by
  have h1 : smB (34 : UInt8) = false := by decide
  have h2 : digB (34 : UInt8) = false := by decide
  have h3 : gtB (34 : UInt8) = false := by decide
  have h4 : ¬ (34 : UInt8) = 35 := by decide
  unfold wordR strR
  simp only [h, h1, h2, h3, h4, Bool.false_eq_true, if_false, if_true]
  cases quoEnd s (s.size + 1) (i + 1) with
  | none => rfl
  | some j => unfold strRq strRw; simp only; cases strW (s.extract i j) <;> rfl
theorem rdV_str {sub : ByteArray} (h : pk sub 0 = 34) : rdV sub = ((strSp sub 0).1, (strSp sub 0).2.1, val1 2 0 ⟨(strSp sub 0).2.2.toArray⟩ .nil) := by
  have h2 : ¬ (34 : UInt8) = 35 := by decide
  have h3 : ¬ ((34 : UInt8) = 45 ∨ digB 34 = true) := by decide
  unfold rdV
  rw [show 2 * sub.size + 2 = (2 * sub.size + 1) + 1 from rfl, valSp]
  simp only [h, h2, h3, if_false, if_true]
/-- What reading such a text comes to. -/
theorem strW_cases {sub : ByteArray} (h34 : pk sub 0 = 34) (h0 : 0 < sub.size) :
    (rdBad sub ∧ strW sub = .inl 111) ∨ ∃ t, ¬ rdBad sub ∧ (rdV sub).2.2 = val1 2 0 t .nil ∧ ((walk1 2 0 t .nil 1 4096).1 = 104 ∧ strW sub = .inl 105 ∨ (walk1 2 0 t .nil 1 4096).1 = 0 ∧ strW sub = .inr t) := by
  have hv := rdV_str h34
  by_cases hb : (strSp sub 0).2.1 = true ∧ sub.size ≤ (strSp sub 0).1
  · refine .inr ⟨⟨(strSp sub 0).2.2.toArray⟩, ?_, by rw [hv], ?_⟩
    · unfold rdBad; rw [hv]; exact fun h => h hb
    · have hp : prB (strSp sub 0).2.2 = true := by
        refine (strSp_inv (s := sub) (i := 0) (j := (strSp sub 0).1) (l := (strSp sub 0).2.2) h0 h34 ?_).2
        rw [← hb.1]
      have hm : mOf 2 ⟨(strSp sub 0).2.2.toArray⟩ = ((strSp sub 0).2.2.length : Int) := by
        unfold mOf; rw [if_pos rfl]
        congr 1
      have ho : ownE 2 0 ⟨(strSp sub 0).2.2.toArray⟩ VL.nil.len = 0 := by
        have : VL.nil.len = 0 := rfl
        unfold ownE; simp [hp, this]
      unfold walk1 strW
      simp only
      rw [if_pos hb, hm, if_neg (by decide)]
      by_cases hbig : 4096 ≤ (strSp sub 0).2.2.length
      · rw [if_pos (by omega), if_pos hbig]; exact .inl ⟨rfl, rfl⟩
      · rw [if_neg (by omega), if_neg hbig, if_pos ho]; exact .inr ⟨rfl, rfl⟩
  · refine .inl ⟨?_, ?_⟩
    · unfold rdBad; rw [hv]; exact hb
    · unfold strW; simp only; rw [if_neg hb]
/-- Reading it. -/
def RdStr (ea : Nat → Addr) (r : Nat ⊕ ByteArray) (W : World) (e : Ending) (w' : World) : Prop :=
  Below W.heap.size W w' ∧ match r with
  | .inr t => ∃ (sa : Option Addr) (sc : Nat), e = .returned (.tuple #[.agg #[.int .i64 2, .int .i64 0, .string t, .slice sa 0 sc], .nilIface])
  | .inl c => if c = 105 then e = .returned (.tuple #[.agg #[.int .i64 0, .int .i64 0, .string ⟨#[]⟩, .slice none 0 0], .iface 199 (.pointer (some (ea 104)))])
      else c = 111 ∧ ∃ A : Nat, e = .returned (.tuple #[.agg #[.int .i64 0, .int .i64 0, .string ⟨#[]⟩, .slice none 0 0], .iface 70 (.pointer (some ⟨A, 0, none⟩))])
theorem readStr_c (sub : ByteArray) (ea : Nat → Addr) (W : World) (he : ErrsAt W ea) (hs : sub.size ≤ 1000000000) (h34 : pk sub 0 = 34) (h0 : 0 < sub.size) : Calls Tryz.prog 76 #[.string sub] W (RdStr ea (strW sub) W) := by
  refine (read_c sub ea W he hs).mono ?_
  rintro e w' ⟨hb, hr⟩
  refine ⟨hb, ?_⟩
  rcases strW_cases h34 h0 with ⟨hbad, hw⟩ | ⟨t, hgood, hv, hw⟩
  · rw [hw]
    rcases hr with ⟨_, A, _, _, h4⟩ | ⟨h, _⟩
    · simp only; rw [if_neg (by decide)]; exact ⟨trivial, A, h4⟩
    · exact absurd hbad h
  · rcases hr with ⟨h, _⟩ | ⟨_, k, n, t', sb, h2, h3⟩
    · exact absurd h hgood
    · rw [hv] at h2
      unfold val1 at h2
      injection h2 with a1 a2 a3 a4 _
      subst a1; subst a2; subst a3; subst a4
      rcases hw with ⟨hw1, hw2⟩ | ⟨hw1, hw2⟩
      · rw [hw2]
        rcases h3 with ⟨_, h5⟩ | ⟨h4, _⟩
        · simp only; rw [if_pos trivial, h5, hw1]; rfl
        · rw [hw1] at h4; cases h4
      · rw [hw2]
        rcases h3 with ⟨h4, _⟩ | ⟨_, sa, sc, _, _, h5⟩
        · exact absurd hw1 h4
        · exact ⟨sa, sc, h5⟩
theorem LxRes.mkBad2 {ea : Nat → Addr} {R c z : Nat} {s : ByteArray} {i : Nat} {line : Int} {l : List Tok} {r : WR} {w w1 : World} (hr : r = .bad c) (hb : Below R w w1) (hR : R ≤ z) (hz : w1.heap.size = z) :
    LxRes ea R s i line l r w (.returned (.iface 70 (.pointer (some ⟨z, 0, none⟩)))) (w1.alloc (.cells #[.int .i64 line, .iface 199 (.pointer (some (ea c)))] 73)) := by
  subst hz
  exact LxRes.mkBad hr hb hR
theorem str_keep {wq W : World} {R : Nat} {a b : Value} (hR : R < wq.heap.size) (h : W.cell? ⟨R, 0, none⟩ = some a ∧ W.cell? ⟨R, 1, none⟩ = some b ∧ Below wq.heap.size wq W) (k : Nat) (u : Value) :
    (W.setCell ⟨wq.heap.size, k, none⟩ u).cell? ⟨R, 0, none⟩ = some a ∧ (W.setCell ⟨wq.heap.size, k, none⟩ u).cell? ⟨R, 1, none⟩ = some b ∧ Below wq.heap.size wq (W.setCell ⟨wq.heap.size, k, none⟩ u) := by
  have hb : ∀ o, (W.setCell ⟨wq.heap.size, k, none⟩ u).cell? ⟨R, o, none⟩ = W.cell? ⟨R, o, none⟩ := fun o => World.cell?_of_block (w := W) (Below.heap_setCell W _ u R (by show R ≠ wq.heap.size; omega))
  exact ⟨(hb 0).trans h.1, (hb 1).trans h.2.1, h.2.2.setCell (Nat.le_refl _) u⟩
theorem zero_below {wq w5 : World} {a b c d : Value} (h : Below ((wq.alloc (.cells #[a, b, c, d] 32)).drew).heap.size ((wq.alloc (.cells #[a, b, c, d] 32)).drew) w5) : StB w5 wq.heap.size a b c d :=
  StB.below (w := (wq.alloc (.cells #[a, b, c, d] 32)).drew) (StB.new wq a b c d) h (by show wq.heap.size < (wq.alloc _).heap.size; simp)

set_option maxRecDepth 100000 in
set_option maxHeartbeats 8000000 in
theorem str_w (R : Nat) (s : ByteArray) (i : Nat) (line : Int) (l : List Tok) (ea : Nat → Addr) (w : World) (h : LxSt w R s i line l) (he : LxEnv w ea) (hi : i < s.size) (hs : s.size ≤ 1000000000) (hR : 24 ≤ R) (h34 : pk s i = 34) :
    Calls Tryz.prog 42 #[.pointer (some ⟨R, 0, none⟩)] w (LxRes ea R s i line l (strR s i line) w) := by
  have hlt := h.lt
  obtain ⟨v, L, ha, _⟩ := id h
  obtain ⟨r, hr⟩ : ∃ r, r = strR s i line := ⟨_, rfl⟩
  obtain ⟨Q, hQ⟩ : ∃ Q, Q = quoEnd s (s.size + 1) (i + 1) := ⟨_, rfl⟩
  have HR : Hid (r = strRq s i line Q) := by rw [hr, hQ]; rfl
  rw [← hr]
  have hc0 := ha.c0; have hc1 := ha.c1
  have HH := Lib.hid h
  have HA := Lib.hid ha
  have HE := Lib.hid he
  have HQ0 := Lib.hid hQ
  have H34 := Lib.hid h34
  have HI := Lib.hid hi
  have e1 := he.err.syn
  obtain ⟨ii, hii, hiic⟩ := info_part (P := Tryz.prog) (t := 199) (f := fun i => i.comparable) (b := true) (by kernel_rfl)
  obtain ⟨jj, hjj, hjjc⟩ := info_part (P := Tryz.prog) (t := 201) (f := fun i => i.size) (b := 1) (by kernel_rfl)
  have EQS := Lib.hid (fun W => run_eql_iface_ptr_same (P := Tryz.prog) (ti := 27) W (ea 104) Tryz.underlying27 Tryz.underlying199 hii hiic hjj)
  have EQT := Lib.hid (fun W (A : Nat) => run_eql_iface_types (P := Tryz.prog) (ti := 27) 70 199 (.pointer (some ⟨A, 0, none⟩)) (.pointer (some (ea 104))) Tryz.underlying27 (by decide) W)
  clear hr h he ha hQ h34 hii hiic hjj hjjc
  go_enter Tryz.func42, Tryz.ntmps42
  go_wp2_with fail
  go_loopg [3] (s.size + 1) (fun k nv wr => ∃ n m : Nat, nv = .int .i64 (n : Int) ∧ 1 ≤ n ∧ i + n ≤ s.size + 1 ∧ s.size + 2 ≤ n + k ∧ wr = w.drewN m ∧ Hid (quoEnd s k (i + n) = Q))
  case atStart => exact ⟨1, 0, rfl, by omega, by omega, by omega, rfl, HQ0.out.symm⟩
  case round =>
    obtain ⟨n, m, rfl, hn1, hn2, hk, rfl, hq⟩ := hrel
    have g1 : IntKind.i64.wrap ((i : Int) + (n : Int)) = (i : Int) + (n : Int) := IntWalk.i64_in _ (by omega)
    have g2 : (0 : Int) ≤ (i : Int) + (n : Int) := by omega
    have g3 : ((i : Int) + (n : Int)).toNat = i + n := by omega
    by_cases hin : i + n < s.size
    · have hd1 : decide ((s.size : Int) ≤ (i : Int) + (n : Int)) = false := by simp; omega
      have hdy : (i : Int) + (n : Int) < (s.size : Int) := by omega
      obtain ⟨c, hc⟩ : ∃ c, c = s[i + n]'hin := ⟨_, rfl⟩
      have hpc : pk s (i + n) = c := by rw [hc]; exact pk_in s (i + n) hin
      obtain ⟨k, rfl⟩ : ∃ k, gk = k + 1 := ⟨gk - 1, by omega⟩
      by_cases hpr : prC c = true
      · have hpr2 : 32 ≤ c.toNat ∧ c.toNat ≤ 126 := of_decide_eq_true hpr
        have hb1 : decide (((s[i + n]'hin).toNat : Int) < 32) = false := by rw [← hc]; simp; omega
        have hb2 : decide ((126 : Int) < ((s[i + n]'hin).toNat : Int)) = false := by rw [← hc]; simp; omega
        have hqs : quoEnd s (k + 1) (i + n) = if c = 34 then some (i + n + 1) else if c = 92 then quoEnd s k (i + n + 2) else quoEnd s k (i + n + 1) := by
          rw [quoEnd, if_pos ⟨hin, by rw [hpc]; exact hpr⟩, hpc]
        have hqq := hqs.symm.trans hq.out
        by_cases c34 : c = 34
        · have HQ : Hid (Q = some (i + n + 1)) := by rw [← hqq, if_pos c34]; rfl
          have ht1 : (((s[i + n]'hin).toNat : Int) == 34) = true := by rw [← hc, c34]; rfl
          obtain ⟨sub, hsub⟩ : ∃ sub, sub = s.extract i (i + (n + 1)) := ⟨_, rfl⟩
          have hr2 : r = strRw i (i + (n + 1)) line (strW sub) := by
            rw [HR.out, HQ.out, hsub, show i + n + 1 = i + (n + 1) from by omega]; rfl
          have hsz : sub.size = n + 1 := by rw [hsub, ByteArray.size_extract]; omega
          have hs34 : pk sub 0 = 34 := by rw [hsub, run_head s (n + 1) i (by omega) (by omega)]; exact H34.out
          have HR2 := Lib.hid hr2
          have HS := Lib.hid hsub
          have g4 : IntKind.i64.wrap ((i : Int) + ((n : Int) + 1)) = (i : Int) + ((n : Int) + 1) := IntWalk.i64_in _ (by omega)
          have g5 : (0 : Int) ≤ (i : Int) + ((n : Int) + 1) := by omega
          have g6 : ((i : Int) + ((n : Int) + 1)).toNat = i + (n + 1) := by omega
          have g7 : (i : Int) ≤ (i : Int) + ((n : Int) + 1) := by omega
          have g8 : (i : Int) + ((n : Int) + 1) ≤ (s.size : Int) := by omega
          have RC := fun W (hW : ErrsAt W ea) => readStr_c sub ea W hW (by omega) hs34 (by omega)
          have h105 : ∀ c, strW sub = .inl c → c = 105 ∨ c = 111 := by
            intro c hcc
            rcases strW_cases hs34 (by omega) with ⟨_, hw⟩ | ⟨t, _, _, ⟨_, hw⟩ | ⟨_, hw⟩⟩
            · rw [hw] at hcc; injection hcc with hcc; exact .inr hcc.symm
            · rw [hw] at hcc; injection hcc with hcc; exact .inl hcc.symm
            · rw [hw] at hcc; cases hcc
          clear hq hqs hqq hpr c34 hpc hc hr2 hsz hs34 hsub
          cases hw : strW sub with
          | inl c =>
            rw [hw] at RC
            have HB := Lib.hid (HR2.out.trans (show _ = WR.bad c by rw [hw]; rfl))
            rcases h105 c hw with rfl | rfl
            · clear h105 hw HR2
              go_wp2_with fail
              go_quiet (fail)
              go_wp2_with fail
              go_quiet (fail)
              go_wp2_with fail
              generalize hwq : World.drewN _ _ = wq
              have hqb : Below w.heap.size w wq := by rw [← hwq]; exact ⟨rfl, rfl, rfl, Nat.le_refl _, fun _ _ => rfl⟩
              have HAQ := HA.out.below hqb hlt
              have q0 := HAQ.c0
              have q1 := HAQ.c1
              have hqz := hqb.size
              have hroom : 24 < wq.heap.size := by omega
              have K1 := Lib.hid (fun W (h : W.cell? ⟨R, 0, none⟩ = some (.string s) ∧ W.cell? ⟨R, 1, none⟩ = some (.int .i64 i) ∧ Below wq.heap.size wq W) => (RC W (HE.out.err.below (hqb.trans (below_le' h.2.2 hqb.size)) (by omega))).mono (R' := fun e W' => (e = .returned (.tuple #[.agg #[.int .i64 0, .int .i64 0, .string ⟨#[]⟩, .slice none 0 0], .iface 199 (.pointer (some (ea 104)))])) ∧ Below W.heap.size W W' ∧ (W'.cell? ⟨R, 0, none⟩ = some (.string s) ∧ W'.cell? ⟨R, 1, none⟩ = some (.int .i64 i) ∧ Below wq.heap.size wq W')) fun e W' ⟨h1, h2⟩ =>
                have hz : R < W.heap.size := Nat.lt_of_lt_of_le (Nat.lt_of_lt_of_le hlt hqb.size) h.2.2.size
                ⟨by simpa using h2, h1, cell_below7 h1 h.1 hz, cell_below7 h1 h.2.1 hz, h.2.2.trans (below_le' h1 h.2.2.size)⟩)
              have KA := Lib.hid (fun W o (h : W.cell? ⟨R, 0, none⟩ = some (.string s) ∧ W.cell? ⟨R, 1, none⟩ = some (.int .i64 i) ∧ Below wq.heap.size wq W) =>
                have hz : R < W.heap.size := Nat.lt_of_lt_of_le (Nat.lt_of_lt_of_le hlt hqb.size) h.2.2.size
                (⟨cell_below7 ((Below.refl W.heap.size W).alloc (Nat.le_refl _) o) h.1 hz, cell_below7 ((Below.refl W.heap.size W).alloc (Nat.le_refl _) o) h.2.1 hz, h.2.2.alloc h.2.2.size o⟩ : (W.alloc o).cell? ⟨R, 0, none⟩ = some (.string s) ∧ (W.alloc o).cell? ⟨R, 1, none⟩ = some (.int .i64 i) ∧ Below wq.heap.size wq (W.alloc o)))
              have K0 : wq.drew.cell? ⟨R, 0, none⟩ = some (.string s) ∧ wq.drew.cell? ⟨R, 1, none⟩ = some (.int .i64 i) ∧ Below wq.heap.size wq wq.drew := ⟨q0, q1, (Below.refl _ _).drew⟩
              have K0A := Lib.hid (fun o : Obj => (have hh := KA.out wq o ⟨q0, q1, Below.refl _ _⟩; ⟨hh.1, hh.2.1, hh.2.2.drew⟩ : (wq.alloc o).drew.cell? ⟨R, 0, none⟩ = some (.string s) ∧ (wq.alloc o).drew.cell? ⟨R, 1, none⟩ = some (.int .i64 i) ∧ Below wq.heap.size wq (wq.alloc o).drew))
              have KS := Lib.hid (fun (W : World) (k : Nat) (u : Value) (h : W.cell? ⟨R, 0, none⟩ = some (.string s) ∧ W.cell? ⟨R, 1, none⟩ = some (.int .i64 i) ∧ Below wq.heap.size wq W) => (str_keep (show R < wq.heap.size by omega) h k u : (W.setCell ⟨wq.heap.size, k, none⟩ u).cell? ⟨R, 0, none⟩ = some (.string s) ∧ (W.setCell ⟨wq.heap.size, k, none⟩ u).cell? ⟨R, 1, none⟩ = some (.int .i64 i) ∧ Below wq.heap.size wq (W.setCell ⟨wq.heap.size, k, none⟩ u)))
              have HQB := Lib.hid hqb
              rw [HS.out] at K1
              have HN := Lib.hid (show 1 ≤ n ∧ i + (n + 1) ≤ s.size from ⟨hn1, by omega⟩)
              clear hwq hqb HAQ RC g1 hb1 hb2 ht1 hd1 hk e1 hc0 hc1
              go_region_held3 (fun W => W.cell? ⟨R, 0, none⟩ = some (.string s) ∧ W.cell? ⟨R, 1, none⟩ = some (.int .i64 i) ∧ Below wq.heap.size wq W)
                (first | (with_reducible assumption) | (with_reducible exact K0) | (with_reducible exact K0A.out _) | ((with_reducible refine KA.out _ _ ?_); with_reducible assumption) | ((repeat (with_reducible refine KS.out _ _ _ ?_)); with_reducible assumption))
                (first
                  | (go_at_call 76; refine (K1.out _ ?_).mono ?_; (with_reducible assumption); rintro e w5 ⟨rfl, hbw, hss⟩
                     (with_reducible (have hz := zero_below hbw))
                     have z0 := hz.c0; have z1 := hz.c1; have z2 := hz.c2; have z3 := hz.c3; have y0 := hz.fr 0; have y1 := hz.fr 1; have y2 := hz.fr 2; have y3 := hz.fr 3)
                  | (go_at_call 76; refine (K1.out _ ?_).mono ?_; (with_reducible assumption); rintro e w5 ⟨rfl, hbw, hss⟩))
              all_goals
                have HB5 := Lib.hid (HQB.out.trans (below_le' hss.2.2 HQB.out.size))
                have hz5 := hss.2.2.size
                have hz55 := HB5.out.size
                have ee1 := (HE.out.err.below HB5.out (by omega)).syn
                have ee2 := (HE.out.err.below HB5.out (by omega)).range
                have ee3 := (HE.out.err.below HB5.out (by omega)).many
                have gg1 := fun o => ((HE.out.err.below HB5.out (by omega)).below ((Below.refl w5.heap.size w5).alloc (Nat.le_refl _) o) (by omega)).syn
                have gg2 := fun o => ((HE.out.err.below HB5.out (by omega)).below ((Below.refl w5.heap.size w5).alloc (Nat.le_refl _) o) (by omega)).range
                have gg3 := fun o => ((HE.out.err.below HB5.out (by omega)).below ((Below.refl w5.heap.size w5).alloc (Nat.le_refl _) o) (by omega)).many
                have hroom5 : 24 < w5.heap.size := by omega
                have HA5 := HA.out.below HB5.out hlt
                have a0 := HA5.c0; have a1 := HA5.c1; have a2 := HA5.c2
                clear hss hbw HA5 K0
                have eqs := EQS.out
                go_wp2_with fail
                refine (bad_c R s i line v _ _ ?_).mono ?_
                · exact HA.out.below (by repeat (first | exact HB5.out | refine Below.drew ?_ | refine Below.setCell ?_ (by first | exact HQB.out.size | (simp; omega)) _ | refine Below.alloc ?_ (by first | exact HB5.out.size | omega | (simp; omega)) _)) hlt
                rintro e w7 ⟨rfl, rfl⟩
                go_wp2_with fail
                go_ret
                first
                  | (refine LxRes.mkBad2 (z := w5.heap.size) HB.out ?_ ?_ ?_
                     · exact below_le' (B := w.heap.size) (by repeat (first | exact HB5.out | refine Below.drew ?_ | refine Below.setCell ?_ (by first | exact HQB.out.size | (simp; omega)) _ | refine Below.alloc ?_ (by first | exact HB5.out.size | omega | (simp; omega)) _)) (Nat.le_of_lt hlt)
                     · exact Nat.le_trans (Nat.le_of_lt hlt) (by omega)
                     · first | rfl | simp [World.setCell])
                  | (refine LxRes.mkBad2 (z := w5.heap.size + 1) HB.out ?_ ?_ ?_
                     · exact below_le' (B := w.heap.size) (by repeat (first | exact HB5.out | refine Below.drew ?_ | refine Below.setCell ?_ (by first | exact HQB.out.size | (simp; omega)) _ | refine Below.alloc ?_ (by first | exact HB5.out.size | omega | (simp; omega)) _)) (Nat.le_of_lt hlt)
                     · exact Nat.le_trans (Nat.le_of_lt hlt) (by omega)
                     · first | rfl | simp)
            · clear h105 hw HR2
              go_wp2_with fail
              go_quiet (fail)
              go_wp2_with fail
              go_quiet (fail)
              go_wp2_with fail
              generalize hwq : World.drewN _ _ = wq
              have hqb : Below w.heap.size w wq := by rw [← hwq]; exact ⟨rfl, rfl, rfl, Nat.le_refl _, fun _ _ => rfl⟩
              have HAQ := HA.out.below hqb hlt
              have q0 := HAQ.c0
              have q1 := HAQ.c1
              have hqz := hqb.size
              have hroom : 24 < wq.heap.size := by omega
              have K1 := Lib.hid (fun W (h : W.cell? ⟨R, 0, none⟩ = some (.string s) ∧ W.cell? ⟨R, 1, none⟩ = some (.int .i64 i) ∧ Below wq.heap.size wq W) => (RC W (HE.out.err.below (hqb.trans (below_le' h.2.2 hqb.size)) (by omega))).mono (R' := fun e W' => (∃ A : Nat, e = .returned (.tuple #[.agg #[.int .i64 0, .int .i64 0, .string ⟨#[]⟩, .slice none 0 0], .iface 70 (.pointer (some ⟨A, 0, none⟩))])) ∧ Below W.heap.size W W' ∧ (W'.cell? ⟨R, 0, none⟩ = some (.string s) ∧ W'.cell? ⟨R, 1, none⟩ = some (.int .i64 i) ∧ Below wq.heap.size wq W')) fun e W' ⟨h1, h2⟩ =>
                have hz : R < W.heap.size := Nat.lt_of_lt_of_le (Nat.lt_of_lt_of_le hlt hqb.size) h.2.2.size
                ⟨by simpa using h2, h1, cell_below7 h1 h.1 hz, cell_below7 h1 h.2.1 hz, h.2.2.trans (below_le' h1 h.2.2.size)⟩)
              have KA := Lib.hid (fun W o (h : W.cell? ⟨R, 0, none⟩ = some (.string s) ∧ W.cell? ⟨R, 1, none⟩ = some (.int .i64 i) ∧ Below wq.heap.size wq W) =>
                have hz : R < W.heap.size := Nat.lt_of_lt_of_le (Nat.lt_of_lt_of_le hlt hqb.size) h.2.2.size
                (⟨cell_below7 ((Below.refl W.heap.size W).alloc (Nat.le_refl _) o) h.1 hz, cell_below7 ((Below.refl W.heap.size W).alloc (Nat.le_refl _) o) h.2.1 hz, h.2.2.alloc h.2.2.size o⟩ : (W.alloc o).cell? ⟨R, 0, none⟩ = some (.string s) ∧ (W.alloc o).cell? ⟨R, 1, none⟩ = some (.int .i64 i) ∧ Below wq.heap.size wq (W.alloc o)))
              have K0 : wq.drew.cell? ⟨R, 0, none⟩ = some (.string s) ∧ wq.drew.cell? ⟨R, 1, none⟩ = some (.int .i64 i) ∧ Below wq.heap.size wq wq.drew := ⟨q0, q1, (Below.refl _ _).drew⟩
              have K0A := Lib.hid (fun o : Obj => (have hh := KA.out wq o ⟨q0, q1, Below.refl _ _⟩; ⟨hh.1, hh.2.1, hh.2.2.drew⟩ : (wq.alloc o).drew.cell? ⟨R, 0, none⟩ = some (.string s) ∧ (wq.alloc o).drew.cell? ⟨R, 1, none⟩ = some (.int .i64 i) ∧ Below wq.heap.size wq (wq.alloc o).drew))
              have KS := Lib.hid (fun (W : World) (k : Nat) (u : Value) (h : W.cell? ⟨R, 0, none⟩ = some (.string s) ∧ W.cell? ⟨R, 1, none⟩ = some (.int .i64 i) ∧ Below wq.heap.size wq W) => (str_keep (show R < wq.heap.size by omega) h k u : (W.setCell ⟨wq.heap.size, k, none⟩ u).cell? ⟨R, 0, none⟩ = some (.string s) ∧ (W.setCell ⟨wq.heap.size, k, none⟩ u).cell? ⟨R, 1, none⟩ = some (.int .i64 i) ∧ Below wq.heap.size wq (W.setCell ⟨wq.heap.size, k, none⟩ u)))
              have HQB := Lib.hid hqb
              rw [HS.out] at K1
              have HN := Lib.hid (show 1 ≤ n ∧ i + (n + 1) ≤ s.size from ⟨hn1, by omega⟩)
              clear hwq hqb HAQ RC g1 hb1 hb2 ht1 hd1 hk e1 hc0 hc1
              go_region_held3 (fun W => W.cell? ⟨R, 0, none⟩ = some (.string s) ∧ W.cell? ⟨R, 1, none⟩ = some (.int .i64 i) ∧ Below wq.heap.size wq W)
                (first | (with_reducible assumption) | (with_reducible exact K0) | (with_reducible exact K0A.out _) | ((with_reducible refine KA.out _ _ ?_); with_reducible assumption) | ((repeat (with_reducible refine KS.out _ _ _ ?_)); with_reducible assumption))
                (first
                  | (go_at_call 76; refine (K1.out _ ?_).mono ?_; (with_reducible assumption); rintro e w5 ⟨⟨A, rfl⟩, hbw, hss⟩
                     (with_reducible (have hz := zero_below hbw))
                     have z0 := hz.c0; have z1 := hz.c1; have z2 := hz.c2; have z3 := hz.c3; have y0 := hz.fr 0; have y1 := hz.fr 1; have y2 := hz.fr 2; have y3 := hz.fr 3)
                  | (go_at_call 76; refine (K1.out _ ?_).mono ?_; (with_reducible assumption); rintro e w5 ⟨⟨A, rfl⟩, hbw, hss⟩))
              all_goals
                have HB5 := Lib.hid (HQB.out.trans (below_le' hss.2.2 HQB.out.size))
                have hz5 := hss.2.2.size
                have hz55 := HB5.out.size
                have ee1 := (HE.out.err.below HB5.out (by omega)).syn
                have ee2 := (HE.out.err.below HB5.out (by omega)).range
                have ee3 := (HE.out.err.below HB5.out (by omega)).many
                have gg1 := fun o => ((HE.out.err.below HB5.out (by omega)).below ((Below.refl w5.heap.size w5).alloc (Nat.le_refl _) o) (by omega)).syn
                have gg2 := fun o => ((HE.out.err.below HB5.out (by omega)).below ((Below.refl w5.heap.size w5).alloc (Nat.le_refl _) o) (by omega)).range
                have gg3 := fun o => ((HE.out.err.below HB5.out (by omega)).below ((Below.refl w5.heap.size w5).alloc (Nat.le_refl _) o) (by omega)).many
                have hroom5 : 24 < w5.heap.size := by omega
                have HA5 := HA.out.below HB5.out hlt
                have a0 := HA5.c0; have a1 := HA5.c1; have a2 := HA5.c2
                clear hss hbw HA5 K0
                have eqs := fun W => EQT.out W A
                go_wp2_with fail
                refine (bad_c R s i line v _ _ ?_).mono ?_
                · exact HA.out.below (by repeat (first | exact HB5.out | refine Below.drew ?_ | refine Below.setCell ?_ (by first | exact HQB.out.size | (simp; omega)) _ | refine Below.alloc ?_ (by first | exact HB5.out.size | omega | (simp; omega)) _)) hlt
                rintro e w7 ⟨rfl, rfl⟩
                go_wp2_with fail
                go_ret
                first
                  | (refine LxRes.mkBad2 (z := w5.heap.size) HB.out ?_ ?_ ?_
                     · exact below_le' (B := w.heap.size) (by repeat (first | exact HB5.out | refine Below.drew ?_ | refine Below.setCell ?_ (by first | exact HQB.out.size | (simp; omega)) _ | refine Below.alloc ?_ (by first | exact HB5.out.size | omega | (simp; omega)) _)) (Nat.le_of_lt hlt)
                     · exact Nat.le_trans (Nat.le_of_lt hlt) (by omega)
                     · first | rfl | simp [World.setCell])
                  | (refine LxRes.mkBad2 (z := w5.heap.size + 1) HB.out ?_ ?_ ?_
                     · exact below_le' (B := w.heap.size) (by repeat (first | exact HB5.out | refine Below.drew ?_ | refine Below.setCell ?_ (by first | exact HQB.out.size | (simp; omega)) _ | refine Below.alloc ?_ (by first | exact HB5.out.size | omega | (simp; omega)) _)) (Nat.le_of_lt hlt)
                     · exact Nat.le_trans (Nat.le_of_lt hlt) (by omega)
                     · first | rfl | simp)
          | inr tx =>
            rw [hw] at RC
            have HB := Lib.hid (HR2.out.trans (show _ = WR.word (n + 1) ⟨3, line, ⟨#[]⟩, 2, 0, tx⟩ by rw [hw]; unfold strRw; simp only; rw [show i + (n + 1) - i = n + 1 from by omega]))
            clear h105 hw HR2
            go_wp2_with fail
            go_quiet (fail)
            go_wp2_with fail
            go_quiet (fail)
            go_wp2_with fail
            generalize hwq : World.drewN _ _ = wq
            have hqb : Below w.heap.size w wq := by rw [← hwq]; exact ⟨rfl, rfl, rfl, Nat.le_refl _, fun _ _ => rfl⟩
            have HAQ := HA.out.below hqb hlt
            have q0 := HAQ.c0
            have q1 := HAQ.c1
            have hqz := hqb.size
            have hroom : 24 < wq.heap.size := by omega
            have K1 := Lib.hid (fun W (h : W.cell? ⟨R, 0, none⟩ = some (.string s) ∧ W.cell? ⟨R, 1, none⟩ = some (.int .i64 i) ∧ Below wq.heap.size wq W) => (RC W (HE.out.err.below (hqb.trans (below_le' h.2.2 hqb.size)) (by omega))).mono (R' := fun e W' => (∃ (sa : Option Addr) (sc : Nat), e = .returned (.tuple #[.agg #[.int .i64 2, .int .i64 0, .string tx, .slice sa 0 sc], .nilIface])) ∧ Below W.heap.size W W' ∧ (W'.cell? ⟨R, 0, none⟩ = some (.string s) ∧ W'.cell? ⟨R, 1, none⟩ = some (.int .i64 i) ∧ Below wq.heap.size wq W')) fun e W' ⟨h1, h2⟩ =>
              have hz : R < W.heap.size := Nat.lt_of_lt_of_le (Nat.lt_of_lt_of_le hlt hqb.size) h.2.2.size
              ⟨h2, h1, cell_below7 h1 h.1 hz, cell_below7 h1 h.2.1 hz, h.2.2.trans (below_le' h1 h.2.2.size)⟩)
            have KA := Lib.hid (fun W o (h : W.cell? ⟨R, 0, none⟩ = some (.string s) ∧ W.cell? ⟨R, 1, none⟩ = some (.int .i64 i) ∧ Below wq.heap.size wq W) =>
              have hz : R < W.heap.size := Nat.lt_of_lt_of_le (Nat.lt_of_lt_of_le hlt hqb.size) h.2.2.size
              (⟨cell_below7 ((Below.refl W.heap.size W).alloc (Nat.le_refl _) o) h.1 hz, cell_below7 ((Below.refl W.heap.size W).alloc (Nat.le_refl _) o) h.2.1 hz, h.2.2.alloc h.2.2.size o⟩ : (W.alloc o).cell? ⟨R, 0, none⟩ = some (.string s) ∧ (W.alloc o).cell? ⟨R, 1, none⟩ = some (.int .i64 i) ∧ Below wq.heap.size wq (W.alloc o)))
            have K0 : wq.drew.cell? ⟨R, 0, none⟩ = some (.string s) ∧ wq.drew.cell? ⟨R, 1, none⟩ = some (.int .i64 i) ∧ Below wq.heap.size wq wq.drew := ⟨q0, q1, (Below.refl _ _).drew⟩
            have K0A := Lib.hid (fun o : Obj => (have hh := KA.out wq o ⟨q0, q1, Below.refl _ _⟩; ⟨hh.1, hh.2.1, hh.2.2.drew⟩ : (wq.alloc o).drew.cell? ⟨R, 0, none⟩ = some (.string s) ∧ (wq.alloc o).drew.cell? ⟨R, 1, none⟩ = some (.int .i64 i) ∧ Below wq.heap.size wq (wq.alloc o).drew))
            have KS := Lib.hid (fun (W : World) (k : Nat) (u : Value) (h : W.cell? ⟨R, 0, none⟩ = some (.string s) ∧ W.cell? ⟨R, 1, none⟩ = some (.int .i64 i) ∧ Below wq.heap.size wq W) => (str_keep (show R < wq.heap.size by omega) h k u : (W.setCell ⟨wq.heap.size, k, none⟩ u).cell? ⟨R, 0, none⟩ = some (.string s) ∧ (W.setCell ⟨wq.heap.size, k, none⟩ u).cell? ⟨R, 1, none⟩ = some (.int .i64 i) ∧ Below wq.heap.size wq (W.setCell ⟨wq.heap.size, k, none⟩ u)))
            have HQB := Lib.hid hqb
            rw [HS.out] at K1
            have HN := Lib.hid (show 1 ≤ n ∧ i + (n + 1) ≤ s.size from ⟨hn1, by omega⟩)
            clear hwq hqb HAQ RC g1 hb1 hb2 ht1 hd1 hk e1 hc0 hc1
            go_region_held3 (fun W => W.cell? ⟨R, 0, none⟩ = some (.string s) ∧ W.cell? ⟨R, 1, none⟩ = some (.int .i64 i) ∧ Below wq.heap.size wq W)
              (first | (with_reducible assumption) | (with_reducible exact K0) | (with_reducible exact K0A.out _) | ((with_reducible refine KA.out _ _ ?_); with_reducible assumption) | ((repeat (with_reducible refine KS.out _ _ _ ?_)); with_reducible assumption))
              (first
                | (go_at_call 76; refine (K1.out _ ?_).mono ?_; (with_reducible assumption); rintro e w5 ⟨⟨sa, sc, rfl⟩, hbw, hss⟩
                   (with_reducible (have hz := zero_below hbw))
                   have z0 := hz.c0; have z1 := hz.c1; have z2 := hz.c2; have z3 := hz.c3; have y0 := hz.fr 0; have y1 := hz.fr 1; have y2 := hz.fr 2; have y3 := hz.fr 3)
                | (go_at_call 76; refine (K1.out _ ?_).mono ?_; (with_reducible assumption); rintro e w5 ⟨⟨sa, sc, rfl⟩, hbw, hss⟩))
            all_goals
              have HB5 := Lib.hid (HQB.out.trans (below_le' hss.2.2 HQB.out.size))
              have hz5 := hss.2.2.size
              have hz55 := HB5.out.size
              have ee1 := (HE.out.err.below HB5.out (by omega)).syn
              have ee2 := (HE.out.err.below HB5.out (by omega)).range
              have ee3 := (HE.out.err.below HB5.out (by omega)).many
              have gg1 := fun o => ((HE.out.err.below HB5.out (by omega)).below ((Below.refl w5.heap.size w5).alloc (Nat.le_refl _) o) (by omega)).syn
              have gg2 := fun o => ((HE.out.err.below HB5.out (by omega)).below ((Below.refl w5.heap.size w5).alloc (Nat.le_refl _) o) (by omega)).range
              have gg3 := fun o => ((HE.out.err.below HB5.out (by omega)).below ((Below.refl w5.heap.size w5).alloc (Nat.le_refl _) o) (by omega)).many
              have hroom5 : 24 < w5.heap.size := by omega
              have HA5 := HA.out.below HB5.out hlt
              have a0 := HA5.c0; have a1 := HA5.c1; have a2 := HA5.c2
              clear hss hbw HA5 K0
              go_wp2_with fail
              rw [show ((n : Int) + 1) = ((n + 1 : Nat) : Int) from by omega]
              refine (put_c R s i line l _ ?_ (n + 1) (by omega) HN.out.2 hs ⟨3, 0, ⟨#[]⟩, 2, 0, tx⟩ 0 sa sc).mono ?_
              · exact HH.out.below_self (by repeat (first | exact HB5.out | refine Below.drew ?_ | refine Below.setCell ?_ (by first | exact HQB.out.size | (simp; omega)) _ | refine Below.alloc ?_ (by first | exact HB5.out.size | omega | (simp; omega)) _))
              rintro e w7 ⟨rfl, hb7, hst7⟩
              go_wp2_with fail
              go_ret
              refine LxRes.mkWord HB.out (Below.trans ?_ hb7) hst7
              exact below_le' (B := w.heap.size) (by repeat (first | exact HB5.out | refine Below.drew ?_ | refine Below.setCell ?_ (by first | exact HQB.out.size | (simp; omega)) _ | refine Below.alloc ?_ (by first | exact HB5.out.size | omega | (simp; omega)) _)) (Nat.le_of_lt hlt)
        · by_cases c92 : c = 92
          · have ht1 : (((s[i + n]'hin).toNat : Int) == 34) = false := by rw [← hc, beq_eq_false_iff_ne]; intro e; exact c34 (UInt8.toNat_inj.1 (by show c.toNat = 34; omega))
            have ht2 : (((s[i + n]'hin).toNat : Int) == 92) = true := by rw [← hc, c92]; rfl
            have HQ : Hid (quoEnd s k (i + (n + 2)) = Q) := by rw [← hqq, if_neg c34, if_pos c92]; rfl
            clear hq hqs hqq hpr c34 c92 hpc hc
            go_wp2_with fail
            go_quiet (fail)
            go_wp2_with fail
            go_quiet (fail)
            go_wp2_with fail
            go_roundg k
            case measure => omega
            case rel => exact ⟨n + 2, _, by go_num, by omega, by omega, by omega, rfl, HQ.out⟩
          · have ht1 : (((s[i + n]'hin).toNat : Int) == 34) = false := by rw [← hc, beq_eq_false_iff_ne]; intro e; exact c34 (UInt8.toNat_inj.1 (by show c.toNat = 34; omega))
            have ht2 : (((s[i + n]'hin).toNat : Int) == 92) = false := by rw [← hc, beq_eq_false_iff_ne]; intro e; exact c92 (UInt8.toNat_inj.1 (by show c.toNat = 92; omega))
            have HQ : Hid (quoEnd s k (i + (n + 1)) = Q) := by rw [← hqq, if_neg c34, if_neg c92]; rfl
            clear hq hqs hqq hpr c34 c92 hpc hc
            go_wp2_with fail
            go_quiet (fail)
            go_wp2_with fail
            go_quiet (fail)
            go_wp2_with fail
            go_roundg k
            case measure => omega
            case rel => exact ⟨n + 1, _, by go_num, by omega, by omega, by omega, rfl, HQ.out⟩
      · have HB : Hid (r = .bad 111) := by
          rw [HR.out, ← hq.out, quoEnd, if_neg (by rintro ⟨_, h⟩; rw [hpc] at h; exact hpr h)]; rfl
        by_cases hlo : c.toNat < 32
        · have hb1 : decide (((s[i + n]'hin).toNat : Int) < 32) = true := by rw [← hc]; simp; omega
          clear hq hpr hpc hc hlo
          go_wp2_with fail
          go_quiet (fail)
          go_wp2_with fail
          refine (bad_c R s i line v _ _ (by exact HA.out)).mono ?_
          rintro e w2 ⟨rfl, rfl⟩
          go_wp2_with fail
          go_ret
          exact LxRes.mkBad HB.out ⟨rfl, rfl, rfl, Nat.le_refl _, fun _ _ => rfl⟩ (Nat.le_of_lt hlt)
        · have hb1 : decide (((s[i + n]'hin).toNat : Int) < 32) = false := by rw [← hc]; simp; omega
          have hhi : 126 < c.toNat := by
            rcases Nat.lt_or_ge 126 c.toNat with h | h
            · exact h
            · exact absurd (decide_eq_true (show 32 ≤ c.toNat ∧ c.toNat ≤ 126 by omega)) hpr
          have hb2 : decide ((126 : Int) < ((s[i + n]'hin).toNat : Int)) = true := by rw [← hc]; simp; omega
          clear hq hpr hpc hc hlo hhi
          go_wp2_with fail
          go_quiet (fail)
          go_wp2_with fail
          refine (bad_c R s i line v _ _ (by exact HA.out)).mono ?_
          rintro e w2 ⟨rfl, rfl⟩
          go_wp2_with fail
          go_ret
          exact LxRes.mkBad HB.out ⟨rfl, rfl, rfl, Nat.le_refl _, fun _ _ => rfl⟩ (Nat.le_of_lt hlt)
    · have hd1 : decide ((s.size : Int) ≤ (i : Int) + (n : Int)) = true := by simp; omega
      have HB : Hid (r = .bad 111) := by
        have hnone : quoEnd s gk (i + n) = none := by
          cases gk with
          | zero => rfl
          | succ k => rw [quoEnd, if_neg (fun h => hin h.1)]
        rw [HR.out, ← hq.out, hnone]; rfl
      clear hq
      go_wp2_with fail
      go_quiet (fail)
      go_wp2_with fail
      refine (bad_c R s i line v _ _ (by exact HA.out)).mono ?_
      rintro e w2 ⟨rfl, rfl⟩
      go_wp2_with fail
      go_ret
      exact LxRes.mkBad HB.out ⟨rfl, rfl, rfl, Nat.le_refl _, fun _ _ => rfl⟩ (Nat.le_of_lt hlt)
end Go.Proofs.YtfganjmadehhaaaGreatDoor
namespace Go.Proofs.YtfganjmadehhaaaGreatDoor
open Go.RowKit Go.Lib
set_option linter.unusedVariables false

theorem LxRes.of_drewN {ea : Nat → Addr} {R n : Nat} {s : ByteArray} {i : Nat} {line : Int} {l : List Tok} {r : WR} {w : World} {e : Ending} {w' : World} (h : LxRes ea R s i line l r (w.drewN n) e w') : LxRes ea R s i line l r w e w' :=
  ⟨(below_drewN (Below.refl _ _) n).trans h.1, h.2⟩
theorem LxRes.ret {ea : Nat → Addr} {R : Nat} {s : ByteArray} {i : Nat} {line : Int} {l : List Tok} {r : WR} {w : World} {e : Ending} {w' : World} (h : LxRes ea R s i line l r w e w') : ∃ x, e = .returned x := by
  obtain ⟨_, h⟩ := h
  cases r with
  | bad c => obtain ⟨A, _, _, rfl⟩ := h; exact ⟨_, rfl⟩
  | word n t => exact ⟨_, h.1⟩
theorem byte_eq {c d : UInt8} {k : Nat} (hd : d.toNat = k) : (((c.toNat : Nat) : Int) == (k : Int)) = (c == d) := by
  rw [Bool.eq_iff_iff, beq_iff_eq, beq_iff_eq]
  constructor
  · intro h; exact UInt8.toNat_inj.1 (by omega)
  · rintro rfl; omega
theorem byte_t {c d : UInt8} {k : Nat} (hd : d.toNat = k) (h : c = d) : (((c.toNat : Nat) : Int) == (k : Int)) = true := by rw [byte_eq hd, h]; simp
theorem byte_f {c d : UInt8} {k : Nat} (hd : d.toNat = k) (h : c ≠ d) : (((c.toNat : Nat) : Int) == (k : Int)) = false := by rw [byte_eq hd]; simpa using h

set_option maxRecDepth 100000 in
set_option maxHeartbeats 2000000 in
theorem word_nl (R : Nat) (s : ByteArray) (i : Nat) (line : Int) (l : List Tok) (ea : Nat → Addr) (w : World) (h : LxSt w R s i line l) (he : LxEnv w ea) (hi : i < s.size) (hs : s.size ≤ 1000000000) (hR : 24 ≤ R) (hl : -1000000000 ≤ line) (hl2 : line ≤ 1000000000000) (h10 : pk s i = 10) :
    Calls Tryz.prog 21 #[.pointer (some ⟨R, 0, none⟩)] w fun e w' => e = .returned .nilIface ∧ Below R w w' ∧ LxSt w' R s (i + 1) (line + 1) l := by
  have hlt := h.lt
  obtain ⟨v, L, ha, _⟩ := id h
  have hc0 := ha.c0; have hc1 := ha.c1; have hc2 := ha.c2
  have hf1 := ha.fr 1; have hf2 := ha.fr 2
  have HH := Lib.hid h
  have HE := Lib.hid he
  have hpk := pk_in s i hi
  have hii : (i : Int) < (s.size : Int) := by omega
  have hib : (i : Int) ≤ 1000000000 := by omega
  have t10 : (((s[i]'hi).toNat : Int) == 10) = true := by rw [← hpk]; exact byte_t (d := 10) (k := 10) rfl h10
  clear h he ha hpk h10
  go_enter Tryz.func21, Tryz.ntmps21
  go_wp2_with fail
  go_quiet (fail)
  go_wp2_with fail
  go_ret
  have hst := ((HH.out.newline (line + 1)).move (i + 1) (by omega) (by omega))
  rw [show ((i + 1 : Nat) : Int) = (i : Int) + 1 from by omega] at hst
  refine ⟨rfl, ?_, LxSt.drewN hst _⟩
  refine Below.setCell (Below.setCell ?_ ?_ _) ?_ _
  · exact below_drewN (Below.refl _ _) _
  · exact Nat.le_refl _
  · exact Nat.le_refl _

set_option maxRecDepth 100000 in
set_option maxHeartbeats 2000000 in
theorem word_sp (R : Nat) (s : ByteArray) (i : Nat) (line : Int) (l : List Tok) (ea : Nat → Addr) (w : World) (h : LxSt w R s i line l) (he : LxEnv w ea) (hi : i < s.size) (hs : s.size ≤ 1000000000) (hR : 24 ≤ R) (h32 : pk s i = 32) :
    Calls Tryz.prog 21 #[.pointer (some ⟨R, 0, none⟩)] w fun e w' => e = .returned .nilIface ∧ Below R w w' ∧ LxSt w' R s (i + 1) line l := by
  have hlt := h.lt
  obtain ⟨v, L, ha, _⟩ := id h
  have hc0 := ha.c0; have hc1 := ha.c1; have hc2 := ha.c2
  have hf1 := ha.fr 1; have hf2 := ha.fr 2
  have HH := Lib.hid h
  have HE := Lib.hid he
  have hpk := pk_in s i hi
  have hii : (i : Int) < (s.size : Int) := by omega
  have hib : (i : Int) ≤ 1000000000 := by omega
  have t10 : (((s[i]'hi).toNat : Int) == 10) = false := by rw [← hpk, h32]; rfl
  have t32 : (((s[i]'hi).toNat : Int) == 32) = true := by rw [← hpk, h32]; rfl
  clear h he ha hpk h32
  go_enter Tryz.func21, Tryz.ntmps21
  go_wp2_with fail
  go_quiet (fail)
  go_wp2_with fail
  go_ret
  have hst := (HH.out.move (i + 1) (by omega) (by omega))
  rw [show ((i + 1 : Nat) : Int) = (i : Int) + 1 from by omega] at hst
  refine ⟨rfl, ?_, LxSt.drewN hst _⟩
  refine Below.setCell ?_ ?_ _
  · exact below_drewN (Below.refl _ _) _
  · exact Nat.le_refl _

set_option maxRecDepth 100000 in
set_option maxHeartbeats 2000000 in
theorem word_w (R : Nat) (s : ByteArray) (i : Nat) (line : Int) (l : List Tok) (ea : Nat → Addr) (w : World) (h : LxSt w R s i line l) (he : LxEnv w ea) (hi : i < s.size) (hs : s.size ≤ 1000000000) (hR : 24 ≤ R) (h10 : pk s i ≠ 10) (h32 : pk s i ≠ 32) :
    Calls Tryz.prog 21 #[.pointer (some ⟨R, 0, none⟩)] w (LxRes ea R s i line l (wordR s i line) w) := by
  have hlt := h.lt
  obtain ⟨v, L, ha, _⟩ := id h
  have hc0 := ha.c0; have hc1 := ha.c1; have hc2 := ha.c2
  have hf1 := ha.fr 1; have hf2 := ha.fr 2
  have HH := Lib.hid h
  have HE := Lib.hid he
  have hpk := pk_in s i hi
  have hii : (i : Int) < (s.size : Int) := by omega
  have hib : (i : Int) ≤ 1000000000 := by omega
  have t10 : (((s[i]'hi).toNat : Int) == 10) = false := by rw [← hpk]; exact byte_f (d := 10) (k := 10) rfl h10
  have t32 : (((s[i]'hi).toNat : Int) == 32) = false := by rw [← hpk]; exact byte_f (d := 32) (k := 32) rfl h32
  have SC := fun W => small_c (pk s i) W
  have DC := fun W => ldigit_c (pk s i) W
  have GC := fun W => great_c (pk s i) W
  cases hsm : smB (pk s i) with
  | true =>
    rw [hsm, hpk] at SC
    have HW := Lib.hid (wordR_name hsm : wordR s i line = nameR s i line)
    have SCX := Lib.hid SC
    have HSM := Lib.hid hsm
    clear hsm
    clear h he ha hpk h10 h32 SC DC GC
    go_enter Tryz.func21, Tryz.ntmps21
    go_wp2_with fail
    go_quiet (fail)
    go_wp2_with fail
    refine (SCX.out _).mono ?_
    rintro e w1 ⟨rfl, rfl⟩
    go_wp2_with fail
    refine (name_c R s i line l ea _ (HH.out.drewN _) (HE.out.below (below_drewN (Below.refl _ _) _) hR) hi hs hR HSM.out).mono ?_
    rintro e w2 hres
    obtain ⟨x, rfl⟩ := LxRes.ret hres
    go_wp2_with fail
    go_ret
    rw [HW.out]
    exact LxRes.of_drewN hres
  | false =>
    rw [hsm, hpk] at SC
    cases hdg : digB (pk s i) with
    | true =>
      rw [hdg, hpk] at DC
      have HW := Lib.hid (wordR_int hsm hdg : wordR s i line = intR s i line)
      have SCX := Lib.hid SC
      have DCX := Lib.hid DC
      clear h he ha hpk h10 h32 SC DC GC hsm hdg
      go_enter Tryz.func21, Tryz.ntmps21
      go_wp2_with fail
      go_quiet (fail)
      go_wp2_with fail
      refine (SCX.out _).mono ?_
      rintro e w1 ⟨rfl, rfl⟩
      go_wp2_with fail
      refine (DCX.out _).mono ?_
      rintro e w1 ⟨rfl, rfl⟩
      go_wp2_with fail
      refine (integer_c R s i line l ea _ (HH.out.drewN _) (HE.out.below (below_drewN (Below.refl _ _) _) hR) hi hs hR).mono ?_
      rintro e w2 hres
      obtain ⟨x, rfl⟩ := LxRes.ret hres
      go_wp2_with fail
      go_ret
      rw [HW.out]
      exact LxRes.of_drewN hres
    | false =>
      rw [hdg, hpk] at DC
      cases hgt : gtB (pk s i) with
      | true =>
        rw [hgt, hpk] at GC
        have HW := Lib.hid (wordR_code hsm hdg hgt : wordR s i line = codeR s i line)
        have SCX := Lib.hid SC
        have DCX := Lib.hid DC
        have GCX := Lib.hid GC
        have HGT := Lib.hid hgt
        clear hgt hsm hdg
        clear h he ha hpk h10 h32 SC DC GC
        go_enter Tryz.func21, Tryz.ntmps21
        go_wp2_with fail
        go_quiet (fail)
        go_wp2_with fail
        refine (SCX.out _).mono ?_
        rintro e w1 ⟨rfl, rfl⟩
        go_wp2_with fail
        refine (DCX.out _).mono ?_
        rintro e w1 ⟨rfl, rfl⟩
        go_wp2_with fail
        refine (GCX.out _).mono ?_
        rintro e w1 ⟨rfl, rfl⟩
        go_wp2_with fail
        refine (lcode_c R s i line l ea _ (HH.out.drewN _) (HE.out.below (below_drewN (Below.refl _ _) _) hR) hi hs hR HGT.out).mono ?_
        rintro e w2 hres
        obtain ⟨x, rfl⟩ := LxRes.ret hres
        go_wp2_with fail
        go_ret
        rw [HW.out]
        exact LxRes.of_drewN hres
      | false =>
        rw [hgt, hpk] at GC
        by_cases h35 : pk s i = 35
        · have t35 : (((s[i]'hi).toNat : Int) == 35) = true := by rw [← hpk, h35]; rfl
          have HW := Lib.hid (wordR_obj h35 : wordR s i line = objR s i line)
          have SCX := Lib.hid SC
          have DCX := Lib.hid DC
          have GCX := Lib.hid GC
          clear h he ha hpk h10 h32 SC DC GC hsm hdg hgt h35
          go_enter Tryz.func21, Tryz.ntmps21
          go_wp2_with fail
          go_quiet (fail)
          go_wp2_with fail
          refine (SCX.out _).mono ?_
          rintro e w1 ⟨rfl, rfl⟩
          go_wp2_with fail
          refine (DCX.out _).mono ?_
          rintro e w1 ⟨rfl, rfl⟩
          go_wp2_with fail
          refine (GCX.out _).mono ?_
          rintro e w1 ⟨rfl, rfl⟩
          go_wp2_with fail
          refine (object_c R s i line l ea _ (HH.out.drewN _) (HE.out.below (below_drewN (Below.refl _ _) _) hR) hi hs hR).mono ?_
          rintro e w2 hres
          obtain ⟨x, rfl⟩ := LxRes.ret hres
          go_wp2_with fail
          go_ret
          rw [HW.out]
          exact LxRes.of_drewN hres
        · have t35 : (((s[i]'hi).toNat : Int) == 35) = false := by rw [← hpk]; exact byte_f (d := 35) (k := 35) rfl h35
          by_cases h34 : pk s i = 34
          · have t34 : (((s[i]'hi).toNat : Int) == 34) = true := by rw [← hpk, h34]; rfl
            have HW := Lib.hid (wordR_str h34 : wordR s i line = strR s i line)
            have SCX := Lib.hid SC
            have DCX := Lib.hid DC
            have GCX := Lib.hid GC
            have H34 := Lib.hid h34
            clear h34 h35 hsm hdg hgt
            clear h he ha hpk h10 h32 SC DC GC
            go_enter Tryz.func21, Tryz.ntmps21
            go_wp2_with fail
            go_quiet (fail)
            go_wp2_with fail
            refine (SCX.out _).mono ?_
            rintro e w1 ⟨rfl, rfl⟩
            go_wp2_with fail
            refine (DCX.out _).mono ?_
            rintro e w1 ⟨rfl, rfl⟩
            go_wp2_with fail
            refine (GCX.out _).mono ?_
            rintro e w1 ⟨rfl, rfl⟩
            go_wp2_with fail
            refine (str_w R s i line l ea _ (HH.out.drewN _) (HE.out.below (below_drewN (Below.refl _ _) _) hR) hi hs hR H34.out).mono ?_
            rintro e w2 hres
            obtain ⟨x, rfl⟩ := LxRes.ret hres
            go_wp2_with fail
            go_ret
            rw [HW.out]
            exact LxRes.of_drewN hres
          · have t34 : (((s[i]'hi).toNat : Int) == 34) = false := by rw [← hpk]; exact byte_f (d := 34) (k := 34) rfl h34
            have HW := Lib.hid (wordR_sign hsm hdg hgt h35 h34 : wordR s i line = signR s i line)
            have SCX := Lib.hid SC
            have DCX := Lib.hid DC
            have GCX := Lib.hid GC
            clear h he ha hpk h10 h32 SC DC GC hsm hdg hgt h35 h34
            go_enter Tryz.func21, Tryz.ntmps21
            go_wp2_with fail
            go_quiet (fail)
            go_wp2_with fail
            refine (SCX.out _).mono ?_
            rintro e w1 ⟨rfl, rfl⟩
            go_wp2_with fail
            refine (DCX.out _).mono ?_
            rintro e w1 ⟨rfl, rfl⟩
            go_wp2_with fail
            refine (GCX.out _).mono ?_
            rintro e w1 ⟨rfl, rfl⟩
            go_wp2_with fail
            refine (sign_c R s i line l ea _ (HH.out.drewN _) (HE.out.below (below_drewN (Below.refl _ _) _) hR) hi hs hR).mono ?_
            rintro e w2 hres
            obtain ⟨x, rfl⟩ := LxRes.ret hres
            go_wp2_with fail
            go_ret
            rw [HW.out]
            exact LxRes.of_drewN hres
end Go.Proofs.YtfganjmadehhaaaGreatDoor
namespace Go.Proofs.YtfganjmadehhaaaGreatDoor
open Go.RowKit Go.Lib
set_option linter.unusedVariables false

theorem ite_word {p : Prop} [Decidable p] {a b r : WR} (h : (if p then a else b) = r) : a = r ∨ b = r := by
  split at h
  · exact .inl h
  · exact .inr h
theorem wordR_pos {s : ByteArray} {i n : Nat} {line : Int} {t : Tok} (hi : i < s.size) (h : wordR s i line = .word n t) : 1 ≤ n := by
  by_cases h1 : smB (pk s i) = true
  · rw [wordR_name h1] at h
    unfold nameR at h; simp only at h
    split at h
    · cases h
    · injection h with h _; subst h; exact run_pos s _ i hi (by simp [h1])
  have h1 : smB (pk s i) = false := by simpa using h1
  by_cases h2 : digB (pk s i) = true
  · rw [wordR_int h1 h2] at h
    unfold intR at h
    split at h
    · cases h
    · rename_i v m hd; injection h with h _; subst h; exact (dgs_inr hd (by omega)).1
  have h2 : digB (pk s i) = false := by simpa using h2
  by_cases h3 : gtB (pk s i) = true
  · rw [wordR_code h1 h2 h3] at h
    unfold codeR at h; simp only at h
    split at h
    · cases h
    · injection h with h _; subst h; exact run_pos s _ i hi (by simp [h3])
  have h3 : gtB (pk s i) = false := by simpa using h3
  by_cases h4 : pk s i = 35
  · rw [wordR_obj h4] at h
    unfold objR at h; simp only at h
    split at h
    · cases h
    · rename_i v m hd
      split at h
      · cases h
      · rcases ite_word h with h | h
        · cases h
        · injection h with h _
          split at h <;> omega
  by_cases h5 : pk s i = 34
  · rw [wordR_str h5] at h
    unfold strR at h
    cases hq : quoEnd s (s.size + 1) (i + 1) with
    | none => rw [hq] at h; cases h
    | some j =>
      rw [hq] at h
      have := (quoEnd_le s _ _ _ hq).1
      unfold strRq strRw at h
      simp only at h
      cases hw : strW (s.extract i j) with
      | inl e => rw [hw] at h; cases h
      | inr x => rw [hw] at h; simp only at h; injection h with h _; omega
  · rw [wordR_sign h1 h2 h3 h4 h5] at h
    unfold signR at h; simp only at h
    split at h
    · cases h
    · injection h with h _; omega

theorem LxSt.new (w : World) (s : ByteArray) : LxSt (w.alloc (.cells #[.string s, .int .i64 0, .int .i64 1, .slice none 0 0] 53)) w.heap.size s 0 1 [] :=
  ⟨.slice none 0 0, [], heap_alloc_new w _, World.ownsRow_nil _ _ _ _, rfl, Nat.le_refl _, Nat.zero_le _⟩
/-- What a call of All shows. -/
def AllOut (ea : Nat → Addr) (r : (Nat × Int) ⊕ List Tok) (w : World) (e : Ending) (w' : World) : Prop :=
  Below w.heap.size w w' ∧ match r with
  | .inl (c, line) => ∃ A, w.heap.size ≤ A ∧ w'.heap[A]? = some (.cells #[.int .i64 line, .iface 199 (.pointer (some (ea c)))] 73 (0, 0)) ∧ e = .returned (.tuple #[.slice none 0 0, .iface 70 (.pointer (some ⟨A, 0, none⟩))])
  | .inr l => ∃ (v : Value) (L : List TokM), e = .returned (.tuple #[v, .nilIface]) ∧ w'.ownsRow w.heap.size 34 7 v L.length (tkCells L) ∧ L.map (·.1) = l
theorem ownsRow_mono {w : World} {b b' e size n : Nat} {v : Value} {xs : List Value} (h : w.ownsRow b e size v n xs) (hb : b' ≤ b) : w.ownsRow b' e size v n xs := by
  obtain ⟨h1, h2⟩ := h
  refine ⟨h1, ?_⟩
  rcases h2 with h2 | ⟨g, cap, cur, hv, hg, r⟩
  · exact .inl h2
  · exact .inr ⟨g, cap, cur, hv, Nat.le_trans hb hg, r⟩
theorem allSp_nl {s : ByteArray} {f i : Nat} {line : Int} {out : List Tok} (h : i < s.size) (h10 : pk s i = 10) : allSp s (f + 1) i line out = allSp s f (i + 1) (line + 1) out := by
  rw [allSp, if_pos h, if_pos h10]
theorem allSp_sp {s : ByteArray} {f i : Nat} {line : Int} {out : List Tok} (h : i < s.size) (h32 : pk s i = 32) : allSp s (f + 1) i line out = allSp s f (i + 1) line out := by
  rw [allSp, if_pos h, if_neg (by rw [h32]; decide), if_pos h32]

set_option maxRecDepth 100000 in
set_option maxHeartbeats 1000000 in
theorem all_many (s : ByteArray) (ea : Nat → Addr) (w : World) (he : ErrsAt w ea) (hb : 32768 < s.size) (hs : s.size ≤ 1000000000) :
    Calls Tryz.prog 10 #[.string s] w fun e w' => e = .returned (.tuple #[.slice none 0 0, .iface 199 (.pointer (some (ea 104)))]) ∧ Below w.heap.size w w' := by
  have e1 := he.many
  have hd : (32768 : Int) < (s.size : Int) := by omega
  go_enter Tryz.func10, Tryz.ntmps10
  go_wp2_with fail
  go_quiet (fail)
  go_wp2_with fail
  go_returns
  exact ⟨rfl, below_drewN (Below.refl _ _) _⟩

set_option maxRecDepth 100000 in
set_option maxHeartbeats 2000000 in
theorem all_c (s : ByteArray) (ea : Nat → Addr) (w : World) (he : LxEnv w ea) (hb : s.size ≤ 32768) :
    Calls Tryz.prog 10 #[.string s] w (AllOut ea (allW s) w) := by
  obtain ⟨r, hr⟩ : ∃ r, r = allW s := ⟨_, rfl⟩
  have hroom := he.err.room
  obtain ⟨wa, hwa⟩ : ∃ wa, wa = w.alloc (.cells #[.string s, .int .i64 0, .int .i64 1, .slice none 0 0] 53) := ⟨_, rfl⟩
  have hst : LxSt wa w.heap.size s 0 1 [] := by rw [hwa]; exact LxSt.new w s
  have hba : Below w.heap.size w wa := by rw [hwa]; exact (Below.refl _ _).alloc (Nat.le_refl _) _
  have HST := Lib.hid hst
  have HBA := Lib.hid hba
  have HWA := Lib.hid hwa
  have HR := Lib.hid hr
  have HE := Lib.hid he
  have hd : (s.size : Int) ≤ 32768 := by omega
  rw [← hr]
  clear he hst hba hwa hr
  go_enter Tryz.func10, Tryz.ntmps10
  go_wp2_with fail
  rw [← HWA.out]
  go_loopg [] (s.size + 1) (fun k wr => ∃ (i : Nat) (line : Int) (l : List Tok), LxSt wr w.heap.size s i line l ∧ Below w.heap.size w wr ∧ s.size + 1 ≤ i + k ∧ 1 ≤ line ∧ line ≤ 1 + i ∧ Hid (allSp s k i line l = r))
  case atStart => exact ⟨0, 1, [], HST.out, HBA.out, by omega, by omega, by omega, HR.out.symm⟩
  case round =>
    obtain ⟨i, line, l, hs1, hbw, hk, hl1, hl2, hq⟩ := hrel
    obtain ⟨v, L, hAt, hown, hmap, hLi, his⟩ := id hs1
    have c0 := hAt.c0
    have c1 := hAt.c1
    have c3 := hAt.c3
    have HS1 := Lib.hid hs1
    have HBW := Lib.hid hbw
    have HEW := Lib.hid (HE.out.below hbw (by omega))
    by_cases hin : i < s.size
    · obtain ⟨k, rfl⟩ : ∃ k, gk = k + 1 := ⟨gk - 1, by omega⟩
      have hlt : (i : Int) < (s.size : Int) := by omega
      by_cases h10 : pk s i = 10
      · have HQ := Lib.hid ((allSp_nl hin h10).symm.trans hq.out)
        have WC := Lib.hid (word_nl w.heap.size s i line l ea wr HS1.out HEW.out hin (by omega) (by omega) (by omega) (by omega) h10)
        clear hq h10 hs1 hbw hAt hown hmap
        go_wp2_with fail
        refine WC.out.mono ?_
        rintro e w2 ⟨rfl, hb2, hs2⟩
        have HS2 := Lib.hid hs2
        have HB2 := Lib.hid hb2
        clear hs2 hb2
        go_wp2_with fail
        go_roundg k
        case measure => omega
        case rel => exact ⟨i + 1, line + 1, l, HS2.out, HBW.out.trans HB2.out, by omega, by omega, by omega, HQ.out⟩
      by_cases h32 : pk s i = 32
      · have HQ := Lib.hid ((allSp_sp hin h32).symm.trans hq.out)
        have WC := Lib.hid (word_sp w.heap.size s i line l ea wr HS1.out HEW.out hin (by omega) (by omega) h32)
        clear hq h10 h32 hs1 hbw hAt hown hmap
        go_wp2_with fail
        refine WC.out.mono ?_
        rintro e w2 ⟨rfl, hb2, hs2⟩
        have HS2 := Lib.hid hs2
        have HB2 := Lib.hid hb2
        clear hs2 hb2
        go_wp2_with fail
        go_roundg k
        case measure => omega
        case rel => exact ⟨i + 1, line, l, HS2.out, HBW.out.trans HB2.out, by omega, by omega, by omega, HQ.out⟩
      · have WC := word_w w.heap.size s i line l ea wr HS1.out HEW.out hin (by omega) (by omega) h10 h32
        cases hw : wordR s i line with
        | bad c =>
          have HQ := Lib.hid ((allSp_bad hin h10 h32 hw).symm.trans hq.out)
          rw [hw] at WC
          have WX := Lib.hid WC
          clear hq h10 h32 hs1 hbw hAt hown hmap WC hw
          go_wp2_with fail
          refine WX.out.mono ?_
          rintro e w2 ⟨hb2, A, hA, hh, rfl⟩
          have HX := Lib.hid hA
          have HY := Lib.hid hh
          have HB2 := Lib.hid hb2
          clear hA hh hb2
          go_wp2_with fail
          go_returns
          rw [← HQ.out]
          exact ⟨HBW.out.trans HB2.out, A, HX.out, HY.out, rfl⟩
        | word n t =>
          have HQ := Lib.hid ((allSp_word hin h10 h32 hw).symm.trans hq.out)
          have HN1 := Lib.hid (wordR_pos hin hw)
          rw [hw] at WC
          have WX := Lib.hid WC
          clear hq h10 h32 hs1 hbw hAt hown hmap WC hw
          go_wp2_with fail
          refine WX.out.mono ?_
          rintro e w2 ⟨hb2, rfl, hs2⟩
          have HS2 := Lib.hid hs2
          have HB2 := Lib.hid hb2
          clear hs2 hb2
          have h1n : 1 ≤ n := HN1.out
          go_wp2_with fail
          go_roundg k
          case measure => omega
          case rel => exact ⟨i + n, line, l ++ [t], HS2.out, HBW.out.trans HB2.out, by omega, by omega, by omega, HQ.out⟩
    · have hge : (s.size : Int) ≤ (i : Int) := by omega
      have HQ := Lib.hid ((allSp_end hin gk).symm.trans hq.out)
      have HO := Lib.hid hown
      have HM := Lib.hid hmap
      obtain ⟨VA, VC, rfl⟩ := own_form hown
      clear hq hs1 hbw hAt hown hmap
      go_wp2_with fail
      go_returns
      rw [← HQ.out]
      exact ⟨HBW.out, _, L, rfl, ownsRow_mono HO.out (by omega), HM.out⟩
end Go.Proofs.YtfganjmadehhaaaGreatDoor
namespace Go.Proofs.YtfganjmadehhaaaGreatDoor
open Go.RowKit Go.Lib
set_option linter.unusedVariables false

/-- A word in the midst of a row. -/
structure TkIn (w : World) (g o : Nat) (t : Tok) (sa : Option Addr) (sc : Nat) : Prop where
  c0 : w.cell? ⟨g, o, none⟩ = some (.int .i64 t.kind)
  c1 : w.cell? ⟨g, o + 1, none⟩ = some (.int .i64 t.line)
  c2 : w.cell? ⟨g, o + 2, none⟩ = some (.string t.s)
  c3 : w.cell? ⟨g, o + 3, none⟩ = some (.int .i64 t.k)
  c4 : w.cell? ⟨g, o + 4, none⟩ = some (.int .i64 t.n)
  c5 : w.cell? ⟨g, o + 5, none⟩ = some (.string t.t)
  c6 : w.cell? ⟨g, o + 6, none⟩ = some (.slice sa 0 sc)
theorem TkIn.below {w w' : World} {g o B : Nat} {t : Tok} {sa : Option Addr} {sc : Nat} (h : TkIn w g o t sa sc) (hb : Below B w w') (hg : g < B) : TkIn w' g o t sa sc :=
  have hk : ∀ k, w'.cell? ⟨g, k, none⟩ = w.cell? ⟨g, k, none⟩ := fun k => hb.cell (p := ⟨g, k, none⟩) hg
  ⟨(hk _).trans h.c0, (hk _).trans h.c1, (hk _).trans h.c2, (hk _).trans h.c3, (hk _).trans h.c4, (hk _).trans h.c5, (hk _).trans h.c6⟩
theorem tkCells_get : ∀ (L : List TokM) (j : Nat) (p : TokM), L[j]? = some p → ∀ k, k < 7 → (tkCells L)[7 * j + k]? = (tk7 p)[k]?
  | [], _, _, h, _, _ => by simp at h
  | q :: L, 0, p, h, k, hk => by
    simp at h; subst h
    rw [tkCells, Nat.mul_zero, Nat.zero_add, List.getElem?_append_left (by show k < 7; omega)]
  | q :: L, j + 1, p, h, k, hk => by
    rw [List.getElem?_cons_succ] at h
    rw [tkCells, List.getElem?_append_right (by show 7 ≤ _; omega), show 7 * (j + 1) + k - (tk7 q).length = 7 * j + k from by show 7 * (j + 1) + k - 7 = _; omega]
    exact tkCells_get L j p h k hk
theorem own_tkIn {w : World} {base g n cap : Nat} {L : List TokM} (h : w.ownsRow base 34 7 (.slice (some ⟨g, 0, none⟩) n cap) n (tkCells L)) (j : Nat) (p : TokM) (hp : L[j]? = some p) : TkIn w g (7 * j) p.1 p.2.1 p.2.2 := by
  have hc : ∀ k u, k < 7 → (tk7 p)[k]? = some u → w.cell? ⟨g, 7 * j + k, none⟩ = some u := by
    intro k u hk hu
    have := h.cells (g := g) rfl (7 * j + k) u (by rw [tkCells_get L j p hp k hk]; exact hu)
    have hadd : (⟨g, 0, none⟩ : Addr).add (7 * j + k) = ⟨g, 7 * j + k, none⟩ := by unfold Addr.add; split <;> simp_all
    rw [hadd] at this; exact this
  exact ⟨hc 0 _ (by decide) rfl, hc 1 _ (by decide) rfl, hc 2 _ (by decide) rfl, hc 3 _ (by decide) rfl, hc 4 _ (by decide) rfl, hc 5 _ (by decide) rfl, hc 6 _ (by decide) rfl⟩

/-- What a call of All shows of a text that is words, at least one. -/
def AllSome (l : List Tok) (w : World) (e : Ending) (w' : World) : Prop :=
  ∃ g cap, e = .returned (.tuple #[.slice (some ⟨g, 0, none⟩) l.length cap, .nilIface]) ∧ w.heap.size ≤ g ∧ g < w'.heap.size ∧ Below w.heap.size w w' ∧ l.length ≤ cap ∧ ∀ j t, l[j]? = some t → ∃ sa sc, TkIn w' g (7 * j) t sa sc
theorem all_some {s : ByteArray} {l : List Tok} (ea : Nat → Addr) (w : World) (he : LxEnv w ea) (hb : s.size ≤ 32768) (h : allW s = .inr l) (hl : 0 < l.length) :
    Calls Tryz.prog 10 #[.string s] w (AllSome l w) := by
  have := all_c s ea w he hb
  rw [h] at this
  refine this.mono ?_
  rintro e w' ⟨hbw, v, L, rfl, hown, hm⟩
  have hlen : L.length = l.length := by rw [← hm, List.length_map]
  have h2 := hown.2
  obtain ⟨g, cap, rfl, hg, hlt⟩ := hown.form (by omega)
  have hcap : l.length ≤ cap := by
    rcases h2 with ⟨h, _⟩ | ⟨g', cap', cur, h, _, _, hc, _⟩
    · cases h
    · injection h with _ _ h; omega
  refine ⟨g, cap, by rw [hlen], hg, hlt, hbw, hcap, fun j t hj => ?_⟩
  rw [← hm, List.getElem?_map] at hj
  cases hq : L[j]? with
  | none => rw [hq] at hj; cases hj
  | some p =>
    rw [hq] at hj
    simp at hj
    rw [← hj]
    exact ⟨_, _, own_tkIn hown j p hq⟩
/-- .. that is no words. -/
theorem all_none {s : ByteArray} (ea : Nat → Addr) (w : World) (he : LxEnv w ea) (hb : s.size ≤ 32768) (h : allW s = .inr []) :
    Calls Tryz.prog 10 #[.string s] w fun e w' => (∃ (A : Option Addr) (C : Nat), e = .returned (.tuple #[.slice A 0 C, .nilIface])) ∧ Below w.heap.size w w' := by
  have := all_c s ea w he hb
  rw [h] at this
  refine this.mono ?_
  rintro e w' ⟨hbw, v, L, rfl, hown, hm⟩
  obtain rfl : L = [] := by simpa using hm
  obtain ⟨A, C, rfl⟩ := own_form hown
  exact ⟨⟨A, C, rfl⟩, hbw⟩
/-- .. that is none. -/
theorem all_bad {s : ByteArray} {c : Nat} {line : Int} (ea : Nat → Addr) (w : World) (he : LxEnv w ea) (hb : s.size ≤ 32768) (h : allW s = .inl (c, line)) :
    Calls Tryz.prog 10 #[.string s] w fun e w' => ∃ A, w.heap.size ≤ A ∧ w'.heap[A]? = some (.cells #[.int .i64 line, .iface 199 (.pointer (some (ea c)))] 73 (0, 0)) ∧
      e = .returned (.tuple #[.slice none 0 0, .iface 70 (.pointer (some ⟨A, 0, none⟩))]) ∧ Below w.heap.size w w' := by
  have := all_c s ea w he hb
  rw [h] at this
  refine this.mono ?_
  rintro e w' ⟨hbw, A, hA, hh, rfl⟩
  exact ⟨A, hA, hh, rfl, hbw⟩

def firstT : ByteArray := ⟨#[120, 61, 61, 34, 97, 34]⟩
def firstL : List Tok := [⟨1, 1, ⟨#[120]⟩, 0, 0, ⟨#[]⟩⟩, ⟨4, 1, ⟨#[61, 61]⟩, 0, 0, ⟨#[]⟩⟩, ⟨3, 1, ⟨#[]⟩, 2, 0, ⟨#[97]⟩⟩]
def tokB (a b : Tok) : Bool := decide (a.kind = b.kind ∧ a.line = b.line ∧ a.s = b.s ∧ a.k = b.k ∧ a.n = b.n ∧ a.t = b.t)
def toksB : List Tok → List Tok → Bool
  | [], [] => true
  | a :: l, b :: m => tokB a b && toksB l m
  | _, _ => false
theorem toksB_eq : ∀ (l m : List Tok), toksB l m = true → l = m
  | [], [], _ => rfl
  | a :: l, b :: m, h => by
    rw [toksB, Bool.and_eq_true] at h
    obtain ⟨h1, h2⟩ := h
    obtain ⟨a1, a2, a3, a4, a5, a6⟩ := of_decide_eq_true h1
    cases a; cases b
    simp only at a1 a2 a3 a4 a5 a6
    rw [toksB_eq l m h2, a1, a2, a3, a4, a5, a6]
  | [], _ :: _, h => by cases h
  | _ :: _, [], h => by cases h
set_option maxRecDepth 100000 in
theorem first_chk : (match allW firstT with | .inr l => toksB l firstL | _ => false) = true := by decide +kernel
theorem first_all : allW firstT = .inr firstL := by
  have h := first_chk
  split at h
  · rename_i l e; rw [e, toksB_eq _ _ h]
  · cases h

set_option maxRecDepth 100000 in
set_option maxHeartbeats 1000000 in
theorem lfirst_c (ea : Nat → Addr) (w : World) (he : LxEnv w ea) : Calls Tryz.prog 7 #[] w fun e w' => e = .returned (.bool true) ∧ Below w.heap.size w w' := by
  have AC := Lib.hid (all_some ea w he (by decide) first_all (by decide))
  clear he
  go_enter Tryz.func7, Tryz.ntmps7
  go_wp2_with fail
  refine AC.out.mono ?_
  rintro e w1 ⟨g, cap, rfl, hg1, hg2, hb, hcap, ht⟩
  obtain ⟨a0, b0, t0⟩ := ht 0 _ rfl
  obtain ⟨a1, b1, t1⟩ := ht 1 _ rfl
  obtain ⟨a2, b2, t2⟩ := ht 2 _ rfl
  have k0 : w1.cell? ⟨g, 0, none⟩ = some (.int .i64 1) := t0.c0
  have k1 : w1.cell? ⟨g, 7, none⟩ = some (.int .i64 4) := t1.c0
  have k2 : w1.cell? ⟨g, 14, none⟩ = some (.int .i64 3) := t2.c0
  have HB := Lib.hid hb
  clear ht t0 t1 t2 hb hcap
  rw [show firstL.length = 3 from rfl]
  go_wp2_with fail
  go_ret
  exact ⟨rfl, HB.out⟩
end Go.Proofs.YtfganjmadehhaaaGreatDoor
namespace Go.Proofs.YtfganjmadehhaaaGreatDoor
open Go.RowKit Go.Lib
set_option linter.unusedVariables false

/-- A fault with no value. -/
def fltV (c : Int) (p : Bool) (pos : Int) : Value := .agg #[.int .i64 c, .bool p, .int .i64 pos, .int .i64 0, .int .i64 0, .string ⟨#[]⟩, .slice none 0 0]

set_option maxRecDepth 100000 in
set_option maxHeartbeats 1000000 in
theorem bare_c (c : Int) (w : World) :
    Calls Tryz.prog 22 #[.int .i64 c] w fun e w' => e = .returned (fltV c false 0) ∧ Below w.heap.size w w' := by
  unfold fltV
  go_enter Tryz.func22, Tryz.ntmps22
  go_wp2
  go_returns
  exact ⟨rfl, (Below.refl _ _).alloc (Nat.le_refl _) _⟩
set_option maxRecDepth 100000 in
set_option maxHeartbeats 1000000 in
theorem none_c (w : World) :
    Calls Tryz.prog 25 #[] w fun e w' => e = .returned (fltV 0 false 0) ∧ Below w.heap.size w w' := by
  unfold fltV
  go_enter Tryz.func25, Tryz.ntmps25
  go_wp2
  go_returns
  exact ⟨rfl, (Below.refl _ _).alloc (Nat.le_refl _) _⟩
set_option maxRecDepth 100000 in
set_option maxHeartbeats 1000000 in
theorem placed_c (c pos : Int) (hc : (c == 0) = false) (w : World) :
    Calls Tryz.prog 14 #[.int .i64 c, .int .i64 pos] w fun e w' => e = .returned (fltV c true pos) ∧ Below w.heap.size w w' := by
  unfold fltV
  go_enter Tryz.func14, Tryz.ntmps14
  go_wp2
  go_returns
  exact ⟨rfl, (Below.refl _ _).alloc (Nat.le_refl _) _⟩

/-- Seven cells in a block of their own. -/
def StF (w : World) (g : Nat) (a b c d e f h : Value) : Prop := w.heap[g]? = some (.cells #[a, b, c, d, e, f, h] 40 (0, 0))
section
variable {w w' : World} {g : Nat} {a b c d e f h : Value}
theorem StF.new (W : World) (a b c d e f h : Value) : StF (W.alloc (.cells #[a, b, c, d, e, f, h] 40)) W.heap.size a b c d e f h := by unfold StF World.alloc; simp
theorem StF.lt (H : StF w g a b c d e f h) : g < w.heap.size := by
  rcases Nat.lt_or_ge g w.heap.size with hlt | hge
  · exact hlt
  · unfold StF at H; rw [Array.getElem?_eq_none hge] at H; cases H
theorem StF.below (H : StF w g a b c d e f h) (hb : Below w.heap.size w w') : StF w' g a b c d e f h := (hb.block g H.lt).trans H
theorem StF.cells (H : StF w g a b c d e f h) : w.cell? ⟨g, 0, none⟩ = some a ∧ w.cell? ⟨g, 1, none⟩ = some b ∧ w.cell? ⟨g, 2, none⟩ = some c ∧ w.cell? ⟨g, 3, none⟩ = some d ∧ w.cell? ⟨g, 4, none⟩ = some e ∧ w.cell? ⟨g, 5, none⟩ = some f ∧ w.cell? ⟨g, 6, none⟩ = some h :=
  ⟨cell_of_row w g 0 _ _ _ H, cell_of_row w g 1 _ _ _ H, cell_of_row w g 2 _ _ _ H, cell_of_row w g 3 _ _ _ H, cell_of_row w g 4 _ _ _ H, cell_of_row w g 5 _ _ _ H, cell_of_row w g 6 _ _ _ H⟩
theorem StF.fr (H : StF w g a b c d e f h) (k : Nat) : w.frozen? ⟨g, k, none⟩ = false := by unfold StF at H; simp [World.frozen?, H]
end
theorem StF.set7 {w : World} {g : Nat} {a b c d e f h : Value} (H : StF w g a b c d e f h) (a' b' c' d' e' f' h' : Value) :
    StF (((((((w.setCell ⟨g, 0, none⟩ a').setCell ⟨g, 1, none⟩ b').setCell ⟨g, 2, none⟩ c').setCell ⟨g, 3, none⟩ d').setCell ⟨g, 4, none⟩ e').setCell ⟨g, 5, none⟩ f').setCell ⟨g, 6, none⟩ h') g a' b' c' d' e' f' h' := by
  unfold StF at H ⊢; simp [World.setCell, Array.getElem?_modify, H]
theorem below_set7 {w w' : World} {B : Nat} (h : Below B w w') {g : Nat} (hg : B ≤ g) (a b c d e f k : Value) :
    Below B w (((((((w'.setCell ⟨g, 0, none⟩ a).setCell ⟨g, 1, none⟩ b).setCell ⟨g, 2, none⟩ c).setCell ⟨g, 3, none⟩ d).setCell ⟨g, 4, none⟩ e).setCell ⟨g, 5, none⟩ f).setCell ⟨g, 6, none⟩ k) :=
  Below.setCell (Below.setCell (Below.setCell (Below.setCell (Below.setCell (Below.setCell (Below.setCell h hg _) hg _) hg _) hg _) hg _) hg _) hg _
/-- A struct of seven cells handed back. -/
theorem ret_cell7 {fn : Func} {p : Tmp} {Q : Ending → World → Prop} {act : Act} {w : World} (hr : fn.results = #[.cell p 40]) (g : Nat) (hp : act.tmps.getD p undef = .pointer (some ⟨g, 0, none⟩)) (hd : act.defers = [])
    {a b c d e f h : Value} (hS : StF w g a b c d e f h) (hQ : Q (.returned (.agg #[a, b, c, d, e, f, h])) w) : bodyPost Tryz.prog fn Q .ret act w := by
  refine bodyPost_ret (v := .agg #[a, b, c, d, e, f, h]) ?_ hd hQ
  obtain ⟨c0, c1, c2, c3, c4, c5, c6⟩ := hS.cells
  have hp' : (act.tmps[p]?).getD undef = .pointer (some ⟨g, 0, none⟩) := by simpa using hp
  simp [results, hr, hp', go_sem, c0, c1, c2, c3, c4, c5, c6]
theorem belowLe {B B' : Nat} {w w' : World} (h : Below B w w') (hb : B' ≤ B) : Below B' w w' := ⟨h.os, h.tape, h.output, h.size, fun k hk => h.block k (by omega)⟩

set_option maxRecDepth 100000 in
set_option maxHeartbeats 2000000 in
theorem inner_c (ea : Nat → Addr) (c : Nat) (w : World) (h : SeesAt w ea) (hc : c < 17) :
    Calls Tryz.prog 44 #[.iface 199 (.pointer (some (ea (101 + c))))] w fun e w' => e = .returned (fltV (101 + (c : Int)) false 0) ∧ Below w.heap.size w w' := by
  have ta : ∀ w : World, (Instr.typeAssert (.iface 199 (.pointer (some (ea (101 + c))))) 27 118 true).run Tryz.prog w = .ok (.tuple #[.pointer none, .bool false]) w := fun w => by kernel_rfl
  obtain ⟨w1, hw1⟩ : ∃ w1, w1 = w.alloc (.cells #[.int .i64 0, .bool false, .int .i64 0, .int .i64 0, .int .i64 0, .string ⟨#[]⟩, .slice none 0 0] 40) := ⟨_, rfl⟩
  have hb1 : Below w.heap.size w w1 := by rw [hw1]; exact (Below.refl _ _).alloc (Nat.le_refl _) _
  have hS : StF w1 w.heap.size (.int .i64 0) (.bool false) (.int .i64 0) (.int .i64 0) (.int .i64 0) (.string ⟨#[]⟩) (.slice none 0 0) := by rw [hw1]; exact StF.new w _ _ _ _ _ _ _
  have SC := Lib.hid (sentinel_c ea c w1 (h.below hb1) hc)
  have HB := Lib.hid hb1
  have HS := Lib.hid hS
  have HW := Lib.hid hw1
  have BC := Lib.hid (fun W => bare_c (101 + (c : Int)) W)
  unfold fltV
  unfold fltV at BC
  clear hb1 hS h hw1
  go_enter Tryz.func44, Tryz.ntmps44
  go_wp2_with fail
  rw [← HW.out]
  refine SC.out.mono ?_
  rintro e w2 ⟨rfl, hb2⟩
  have hs2 := HS.out.below hb2
  have HB2 := Lib.hid (HB.out.trans (belowLe hb2 HB.out.size))
  clear SC hb2
  have HS2 := Lib.hid hs2
  clear hs2
  go_wp2_with fail
  refine (BC.out _).mono ?_
  rintro e w3 ⟨rfl, hb3⟩
  have hs3 := HS2.out.below hb3
  obtain ⟨c0, c1, c2, c3, c4, c5, c6⟩ := hs3.cells
  have f0 := hs3.fr 0; have f1 := hs3.fr 1; have f2 := hs3.fr 2; have f3 := hs3.fr 3; have f4 := hs3.fr 4; have f5 := hs3.fr 5; have f6 := hs3.fr 6
  have HB3 := Lib.hid (HB2.out.trans (belowLe hb3 HB2.out.size))
  have HS3 := Lib.hid hs3
  clear hb3 hs3
  go_wp2_with fail
  refine ret_cell7 Tryz.results44 w.heap.size rfl rfl (HS3.out.set7 _ _ _ _ _ _ _) ?_
  exact ⟨rfl, below_set7 HB3.out (Nat.le_refl _) _ _ _ _ _ _ _⟩

set_option maxRecDepth 100000 in
set_option maxHeartbeats 2000000 in
theorem fault_nil (w : World) :
    Calls Tryz.prog 24 #[.nilIface] w fun e w' => e = .returned (fltV 0 false 0) ∧ Below w.heap.size w w' := by
  obtain ⟨w1, hw1⟩ : ∃ w1, w1 = w.alloc (.cells #[.int .i64 0, .bool false, .int .i64 0, .int .i64 0, .int .i64 0, .string ⟨#[]⟩, .slice none 0 0] 40) := ⟨_, rfl⟩
  have hb1 : Below w.heap.size w w1 := by rw [hw1]; exact (Below.refl _ _).alloc (Nat.le_refl _) _
  have hS : StF w1 w.heap.size (.int .i64 0) (.bool false) (.int .i64 0) (.int .i64 0) (.int .i64 0) (.string ⟨#[]⟩) (.slice none 0 0) := by rw [hw1]; exact StF.new w _ _ _ _ _ _ _
  have HB := Lib.hid hb1
  have HS := Lib.hid hS
  have HW := Lib.hid hw1
  have BC := Lib.hid (fun W => none_c W)
  unfold fltV
  unfold fltV at BC
  clear hb1 hS hw1
  go_enter Tryz.func24, Tryz.ntmps24
  go_wp2_with fail
  rw [← HW.out]
  refine (BC.out _).mono ?_
  rintro e w3 ⟨rfl, hb3⟩
  have hs3 := HS.out.below hb3
  obtain ⟨c0, c1, c2, c3, c4, c5, c6⟩ := hs3.cells
  have f0 := hs3.fr 0; have f1 := hs3.fr 1; have f2 := hs3.fr 2; have f3 := hs3.fr 3; have f4 := hs3.fr 4; have f5 := hs3.fr 5; have f6 := hs3.fr 6
  have HB3 := Lib.hid (HB.out.trans (belowLe hb3 HB.out.size))
  have HS3 := Lib.hid hs3
  clear hb3 hs3
  go_wp2_with fail
  refine ret_cell7 Tryz.results24 w.heap.size rfl rfl (HS3.out.set7 _ _ _ _ _ _ _) ?_
  exact ⟨rfl, below_set7 HB3.out (Nat.le_refl _) _ _ _ _ _ _ _⟩

set_option maxRecDepth 100000 in
set_option maxHeartbeats 2000000 in
theorem fault_bare (ea : Nat → Addr) (c : Nat) (w : World) (h : SeesAt w ea) (hc : c < 17) :
    Calls Tryz.prog 24 #[.iface 199 (.pointer (some (ea (101 + c))))] w fun e w' => e = .returned (fltV (101 + (c : Int)) false 0) ∧ Below w.heap.size w w' := by
  have ta : ∀ w : World, (Instr.typeAssert (.iface 199 (.pointer (some (ea (101 + c))))) 27 70 true).run Tryz.prog w = .ok (.tuple #[.pointer none, .bool false]) w := fun w => by kernel_rfl
  obtain ⟨w1, hw1⟩ : ∃ w1, w1 = w.alloc (.cells #[.int .i64 0, .bool false, .int .i64 0, .int .i64 0, .int .i64 0, .string ⟨#[]⟩, .slice none 0 0] 40) := ⟨_, rfl⟩
  have hb1 : Below w.heap.size w w1 := by rw [hw1]; exact (Below.refl _ _).alloc (Nat.le_refl _) _
  have hS : StF w1 w.heap.size (.int .i64 0) (.bool false) (.int .i64 0) (.int .i64 0) (.int .i64 0) (.string ⟨#[]⟩) (.slice none 0 0) := by rw [hw1]; exact StF.new w _ _ _ _ _ _ _
  have HB := Lib.hid hb1
  have HS := Lib.hid hS
  have HW := Lib.hid hw1
  have BC := Lib.hid (inner_c ea c w1 (h.below hb1) hc)
  unfold fltV
  unfold fltV at BC
  clear hb1 hS hw1 h
  go_enter Tryz.func24, Tryz.ntmps24
  go_wp2_with fail
  rw [← HW.out]
  refine BC.out.mono ?_
  rintro e w3 ⟨rfl, hb3⟩
  have hs3 := HS.out.below hb3
  obtain ⟨c0, c1, c2, c3, c4, c5, c6⟩ := hs3.cells
  have f0 := hs3.fr 0; have f1 := hs3.fr 1; have f2 := hs3.fr 2; have f3 := hs3.fr 3; have f4 := hs3.fr 4; have f5 := hs3.fr 5; have f6 := hs3.fr 6
  have HB3 := Lib.hid (HB.out.trans (belowLe hb3 HB.out.size))
  have HS3 := Lib.hid hs3
  clear hb3 hs3
  go_wp2_with fail
  refine ret_cell7 Tryz.results24 w.heap.size rfl rfl (HS3.out.set7 _ _ _ _ _ _ _) ?_
  exact ⟨rfl, below_set7 HB3.out (Nat.le_refl _) _ _ _ _ _ _ _⟩

/-- An error around a place, in memory. -/
def AtAt (w : World) (A : Nat) (pos : Int) (v : Value) : Prop := w.heap[A]? = some (.cells #[.int .i64 pos, v] 73 (0, 0))
theorem AtAt.below {w w' : World} {A : Nat} {pos : Int} {v : Value} (H : AtAt w A pos v) (hb : Below w.heap.size w w') : AtAt w' A pos v := by
  have hlt : A < w.heap.size := by
    rcases Nat.lt_or_ge A w.heap.size with hlt | hge
    · exact hlt
    · unfold AtAt at H; rw [Array.getElem?_eq_none hge] at H; cases H
  exact (hb.block A hlt).trans H
theorem AtAt.c0 {w : World} {A : Nat} {pos : Int} {v : Value} (H : AtAt w A pos v) : w.cell? ⟨A, 0, none⟩ = some (.int .i64 pos) := cell_of_row w A 0 _ _ _ H
theorem AtAt.c1 {w : World} {A : Nat} {pos : Int} {v : Value} (H : AtAt w A pos v) : w.cell? ⟨A, 1, none⟩ = some v := cell_of_row w A 1 _ _ _ H

set_option maxRecDepth 100000 in
set_option maxHeartbeats 4000000 in
theorem fault_at (ea : Nat → Addr) (c : Nat) (A : Nat) (pos : Int) (w : World) (h : SeesAt w ea) (hc : c < 17) (hA : AtAt w A pos (.iface 199 (.pointer (some (ea (101 + c)))))) :
    Calls Tryz.prog 24 #[.iface 70 (.pointer (some ⟨A, 0, none⟩))] w fun e w' => e = .returned (fltV (101 + (c : Int)) true pos) ∧ Below w.heap.size w w' := by
  have ta : ∀ w : World, (Instr.typeAssert (.iface 70 (.pointer (some ⟨A, 0, none⟩))) 27 70 true).run Tryz.prog w = .ok (.tuple #[.pointer (some ⟨A, 0, none⟩), .bool true]) w := fun w => by kernel_rfl
  obtain ⟨w1, hw1⟩ : ∃ w1, w1 = w.alloc (.cells #[.int .i64 0, .bool false, .int .i64 0, .int .i64 0, .int .i64 0, .string ⟨#[]⟩, .slice none 0 0] 40) := ⟨_, rfl⟩
  have hb1 : Below w.heap.size w w1 := by rw [hw1]; exact (Below.refl _ _).alloc (Nat.le_refl _) _
  have hS : StF w1 w.heap.size (.int .i64 0) (.bool false) (.int .i64 0) (.int .i64 0) (.int .i64 0) (.string ⟨#[]⟩) (.slice none 0 0) := by rw [hw1]; exact StF.new w _ _ _ _ _ _ _
  have hA1 := hA.below hb1
  have a0 := hA1.c0
  have a1 := hA1.c1
  rw [hw1] at a0 a1
  have HB := Lib.hid hb1
  have HS := Lib.hid hS
  have HW := Lib.hid hw1
  have HA := Lib.hid hA1
  have BC := Lib.hid (inner_c ea c w1 (h.below hb1) hc)
  unfold fltV
  unfold fltV at BC
  clear hb1 hS hw1 h hA hA1
  go_enter Tryz.func24, Tryz.ntmps24
  go_wp2_with fail
  rw [← HW.out]
  refine BC.out.mono ?_
  rintro e w3 ⟨rfl, hb3⟩
  have hs3 := HS.out.below hb3
  have ha3 := HA.out.below hb3
  have hz3 := hs3.lt
  have hAlt : A < w3.heap.size := by
    rcases Nat.lt_or_ge A w3.heap.size with hlt | hge
    · exact hlt
    · unfold AtAt at ha3; rw [Array.getElem?_eq_none hge] at ha3; cases ha3
  have ka : ∀ (p : Addr) (o : Obj), p.block < w3.heap.size → (w3.alloc o).cell? p = w3.cell? p := fun p o hp => World.cell?_of_block (w := w3) (Below.heap_alloc w3 o p.block hp)
  have b0 := fun o => (ka ⟨A, 0, none⟩ o hAlt).trans ha3.c0
  obtain ⟨c0, c1, c2, c3, c4, c5, c6⟩ := hs3.cells
  have d0 := fun o => (ka ⟨w.heap.size, 0, none⟩ o hz3).trans c0
  have d1 := fun o => (ka ⟨w.heap.size, 1, none⟩ o hz3).trans c1
  have d2 := fun o => (ka ⟨w.heap.size, 2, none⟩ o hz3).trans c2
  have d3 := fun o => (ka ⟨w.heap.size, 3, none⟩ o hz3).trans c3
  have d4 := fun o => (ka ⟨w.heap.size, 4, none⟩ o hz3).trans c4
  have d5 := fun o => (ka ⟨w.heap.size, 5, none⟩ o hz3).trans c5
  have d6 := fun o => (ka ⟨w.heap.size, 6, none⟩ o hz3).trans c6
  have hSo : ∀ o, StF (w3.alloc o) w.heap.size (.int .i64 0) (.bool false) (.int .i64 0) (.int .i64 0) (.int .i64 0) (.string ⟨#[]⟩) (.slice none 0 0) := fun o => (Below.heap_alloc w3 o _ hz3).trans hs3
  have f0 := fun o => (hSo o).fr 0
  have f1 := fun o => (hSo o).fr 1
  have f2 := fun o => (hSo o).fr 2
  have f3 := fun o => (hSo o).fr 3
  have f4 := fun o => (hSo o).fr 4
  have f5 := fun o => (hSo o).fr 5
  have f6 := fun o => (hSo o).fr 6
  have HSO := Lib.hid hSo
  have HB3 := Lib.hid (HB.out.trans (belowLe hb3 HB.out.size))
  clear hb3 hs3 ha3 hAlt hz3 ka hSo c0 c1 c2 c3 c4 c5 c6
  go_wp2_with fail
  refine ret_cell7 Tryz.results24 w.heap.size rfl rfl ((HSO.out _).set7 _ _ _ _ _ _ _) ?_
  exact ⟨rfl, below_set7 (HB3.out.alloc HB3.out.size _) (Nat.le_refl _) _ _ _ _ _ _ _⟩
end Go.Proofs.YtfganjmadehhaaaGreatDoor
namespace Go.Proofs.YtfganjmadehhaaaGreatDoor
open Go.RowKit Go.Lib
set_option linter.unusedVariables false

def SamesC (N : Nat) : Prop := ∀ (la lb : VL) (sa sb : Option Addr) (ca cb : Nat) (w : World), la.size < N → la.len ≤ 140737488351232 → lb.len ≤ 140737488351232 → la.fit → lb.fit → la.len ≤ ca → lb.len ≤ cb → RpL w (fun b => b < w.heap.size) la sa → RpL w (fun b => b < w.heap.size) lb sb →
  Calls Tryz.prog 28 #[.slice sa la.len ca, .slice sb lb.len cb] w fun e w' => e = .returned (.bool (sameL la lb)) ∧ Below w.heap.size w w'

theorem beq_dec (a b : Int) : (a == b) = decide (a = b) := by
  by_cases h : a = b
  · subst h; simp
  · rw [decide_eq_false h, beq_eq_false_iff_ne]; exact h
theorem sbeq_dec (a b : ByteArray) : (a.toList == b.toList) = decide (a = b) := by
  by_cases h : a = b
  · subst h; simp
  · rw [decide_eq_false h]; exact str_ne h

set_option maxRecDepth 100000 in
set_option maxHeartbeats 2000000 in
theorem sameV_of (k n : Int) (s : ByteArray) (a : VL) (sa : Option Addr) (ca : Nat) (k' n' : Int) (s' : ByteArray) (a' : VL) (sa' : Option Addr) (ca' : Nat) (w : World) (ih : SamesC (a.size + 1))
    (hf : (val1 k n s a).fit) (hf' : (val1 k' n' s' a').fit) (hc : a.len ≤ ca) (hc' : a'.len ≤ ca') (hr : RpL w (fun b => b < w.heap.size) a sa) (hr' : RpL w (fun b => b < w.heap.size) a' sa') :
    Calls Tryz.prog 17 #[.agg #[.int .i64 k, .int .i64 n, .string s, .slice sa a.len ca], .agg #[.int .i64 k', .int .i64 n', .string s', .slice sa' a'.len ca']] w fun e w' => e = .returned (.bool (same1 k n s a k' n' s' a')) ∧ Below w.heap.size w w' := by
  obtain ⟨wa, hwa⟩ : ∃ wa, wa = (w.alloc (.cells #[.int .i64 k, .int .i64 n, .string s, .slice sa a.len ca] 32)).alloc (.cells #[.int .i64 k', .int .i64 n', .string s', .slice sa' a'.len ca'] 32) := ⟨_, rfl⟩
  have hba : Below w.heap.size w wa := by rw [hwa]; exact ((Below.refl _ _).alloc (Nat.le_refl _) _).alloc (by simp) _
  have hwz : wa.heap.size = w.heap.size + 2 := by rw [hwa]; simp
  have hV : StB wa w.heap.size (.int .i64 k) (.int .i64 n) (.string s) (.slice sa a.len ca) := by rw [hwa]; exact (StB.new w _ _ _ _).alloc _
  have hV' : StB wa (w.heap.size + 1) (.int .i64 k') (.int .i64 n') (.string s') (.slice sa' a'.len ca') := by
    rw [hwa]; have := StB.new (w.alloc (.cells #[.int .i64 k, .int .i64 n, .string s, .slice sa a.len ca] 32)) (.int .i64 k') (.int .i64 n') (.string s') (.slice sa' a'.len ca')
    simpa using this
  have IH := Lib.hid (ih a a' sa sa' ca ca' wa (by omega) hf.2.1 hf'.2.1 hf.2.2.1 hf'.2.2.1 hc hc' (hr.keep (fun b hb => hba.block b hb) (fun b hb => by omega)) (hr'.keep (fun b hb => hba.block b hb) (fun b hb => by omega)))
  have v3 := hV.c3; have v3' := hV'.c3
  rw [hwa] at v3 v3'
  have HV := Lib.hid hV
  have HV' := Lib.hid hV'
  have HB := Lib.hid hba
  have HWA := Lib.hid hwa
  have HWZ := Lib.hid hwz
  have e1 := beq_dec k k'
  have e2 := beq_dec n n'
  have e3 := sbeq_dec s s'
  have HS := Lib.hid (show same1 k n s a k' n' s' a' = (sameL a a' && decide (k = k') && decide (n = n') && decide (s = s')) from rfl)
  rw [HS.out]
  obtain ⟨q, hq⟩ : ∃ q, q = sameL a a' := ⟨_, rfl⟩
  obtain ⟨b1, hb1⟩ : ∃ b1, b1 = decide (k = k') := ⟨_, rfl⟩
  obtain ⟨b2, hb2⟩ : ∃ b2, b2 = decide (n = n') := ⟨_, rfl⟩
  obtain ⟨b3, hb3⟩ : ∃ b3, b3 = decide (s = s') := ⟨_, rfl⟩
  rw [← hq] at IH ⊢
  rw [← hb1] at e1 ⊢
  rw [← hb2] at e2 ⊢
  rw [← hb3] at e3 ⊢
  clear hba hwz hV hV' hwa hr hr' hq hb1 hb2 hb3 HS ih
  have fin : ∀ w5, Below wa.heap.size wa w5 → Below w.heap.size w w5 := fun w5 h => HB.out.trans (below_le' h HB.out.size)
  have FIN := Lib.hid fin
  clear fin
  cases q with
  | false =>
    clear e1 e2 e3
    go_enter Tryz.func17, Tryz.ntmps17
    go_wp2_with fail
    rw [← HWA.out]
    refine IH.out.mono ?_
    rintro e w5 ⟨rfl, hb5⟩
    have HB5 := Lib.hid (FIN.out _ hb5)
    clear hb5
    go_wp2_with fail
    go_ret
    exact ⟨rfl, HB5.out⟩
  | true =>
    cases b1 with
    | false =>
      clear e2 e3
      go_enter Tryz.func17, Tryz.ntmps17
      go_wp2_with fail
      rw [← HWA.out]
      refine IH.out.mono ?_
      rintro e w5 ⟨rfl, hb5⟩
      have hv5 := HV.out.below' hb5
      have hv5' := HV'.out.below' hb5
      have u0 := hv5.c0; have u0' := hv5'.c0
      have HB5 := Lib.hid (FIN.out _ hb5)
      clear hb5 hv5 hv5' v3 v3'
      go_wp2_with fail
      go_ret
      exact ⟨rfl, HB5.out⟩
    | true =>
      cases b2 with
      | false =>
        clear e3
        go_enter Tryz.func17, Tryz.ntmps17
        go_wp2_with fail
        rw [← HWA.out]
        refine IH.out.mono ?_
        rintro e w5 ⟨rfl, hb5⟩
        have hv5 := HV.out.below' hb5
        have hv5' := HV'.out.below' hb5
        have u0 := hv5.c0; have u0' := hv5'.c0
        have u1 := hv5.c1; have u1' := hv5'.c1
        have HB5 := Lib.hid (FIN.out _ hb5)
        clear hb5 hv5 hv5' v3 v3'
        go_wp2_with fail
        go_ret
        exact ⟨rfl, HB5.out⟩
      | true =>
        go_enter Tryz.func17, Tryz.ntmps17
        go_wp2_with fail
        rw [← HWA.out]
        refine IH.out.mono ?_
        rintro e w5 ⟨rfl, hb5⟩
        have hv5 := HV.out.below' hb5
        have hv5' := HV'.out.below' hb5
        have u0 := hv5.c0; have u0' := hv5'.c0
        have u1 := hv5.c1; have u1' := hv5'.c1
        have u2 := hv5.c2; have u2' := hv5'.c2
        have HB5 := Lib.hid (FIN.out _ hb5)
        clear hb5 hv5 hv5' v3 v3'
        go_wp2_with fail
        go_ret
        exact ⟨ret_bool (by simp), HB5.out⟩
end Go.Proofs.YtfganjmadehhaaaGreatDoor
namespace Go.Proofs.YtfganjmadehhaaaGreatDoor
open Go.RowKit Go.Lib
set_option linter.unusedVariables false

theorem rp_at {w : World} {l : VL} {A : Option Addr} {S : Nat → Prop} {i : Nat} (h : RpL w S l A) (hi : i < l.len) : ∃ (b o : Nat) (k n : Int) (s : ByteArray) (sub : VL) (sa : Option Addr) (sc : Nat), A = some ⟨b, o, none⟩ ∧ l.drop i = .cons k n s sub (l.drop (i + 1)) ∧ S b ∧
    w.cell? ⟨b, o + i * 4, none⟩ = some (.int .i64 k) ∧ w.cell? ⟨b, o + i * 4 + 1, none⟩ = some (.int .i64 n) ∧ w.cell? ⟨b, o + i * 4 + 2, none⟩ = some (.string s) ∧ w.cell? ⟨b, o + i * 4 + 3, none⟩ = some (.slice sa sub.len sc) ∧ sub.len ≤ sc ∧ RpL w S sub sa ∧ sub.size < l.size := by
  obtain ⟨k, n, s, sub, hd⟩ := VL.drop_of_lt i l hi
  obtain ⟨b, o, hA⟩ : ∃ b o, A = some ⟨b, o, none⟩ := by
    cases l with
    | nil => simp [VL.len] at hi
    | cons _ _ _ _ _ => obtain ⟨b, o, _, _, h, _⟩ := h; exact ⟨b, o, h⟩
  subst hA
  have hdr := RpL.drop i l b o h
  rw [hd] at hdr
  obtain ⟨b', o', sa', sc', hA, hSb, c0, c1, c2, c3, hcl, hrs, _⟩ := hdr
  injection hA with hA
  injection hA with hA1 hA2
  subst hA1
  subst hA2
  have hszd := VL.size_drop i l
  rw [hd] at hszd
  simp only [VL.size] at hszd
  rw [Nat.mul_comm 4 i] at c0 c1 c2 c3
  exact ⟨b, o, k, n, s, sub, sa', sc', rfl, hd, hSb, c0, c1, c2, c3, hcl, hrs, by omega⟩

set_option maxRecDepth 100000 in
set_option maxHeartbeats 4000000 in
theorem sames_step (N : Nat) (ih : ∀ N', N' < N → SamesC N') : SamesC N := by
  intro la lb sa sb ca cb w hN hl1 hl2 hf1 hf2 hc1 hc2 hr1 hr2
  by_cases hlen : la.len = lb.len
  · have hle : ((la.len : Int) != (lb.len : Int)) = false := by simp; omega
    have R1 := Lib.hid hr1
    have R2 := Lib.hid hr2
    have HL := Lib.hid hlen
    clear hr1 hr2 hlen
    go_enter Tryz.func28, Tryz.ntmps28
    go_wp2_with fail
    go_loopg [5] la.len (fun kk v wr => ∃ i : Nat, v = .int .i64 i ∧ i + kk = la.len ∧ Hid (Below w.heap.size w wr) ∧ Hid (sameL (la.drop i) (lb.drop i) = sameL la lb))
    case atStart => exact ⟨0, rfl, by omega, Below.refl _ _, by show sameL (la.drop 0) (lb.drop 0) = _; rw [VL.drop, VL.drop]⟩
    case round =>
      obtain ⟨i, rfl, hik, hbr, hsm⟩ := hrel
      by_cases hi : i < la.len
      · obtain ⟨g, rfl⟩ : ∃ g, gk = g + 1 := ⟨gk - 1, by omega⟩
        have hi2 : i < lb.len := by have := HL.out; omega
        have hz := hbr.out.size
        obtain ⟨b, o, k1, n1, s1, x1, xa1, xc1, hA1, hd1, hSb1, c0, c1, c2, c3, hcl1, hrs1, hsz1⟩ := rp_at (R1.out.keep (w' := wr) (fun b hb => hbr.out.block b hb) (fun b hb => hb)) hi
        obtain ⟨b', o', k2, n2, s2, x2, xa2, xc2, hA2, hd2, hSb2, e0, e1, e2, e3, hcl2, hrs2, hsz2⟩ := rp_at (R2.out.keep (w' := wr) (fun b hb => hbr.out.block b hb) (fun b hb => hb)) hi2
        have hfd1 := VL.fit_drop i la hf1
        rw [hd1] at hfd1
        have hfd2 := VL.fit_drop i lb hf2
        rw [hd2] at hfd2
        have SV := Lib.hid (sameV_of k1 n1 s1 x1 xa1 xc1 k2 n2 s2 x2 xa2 xc2 wr.drew (ih _ (by omega)) ⟨hfd1.1, hfd1.2.1, hfd1.2.2.1, trivial⟩ ⟨hfd2.1, hfd2.2.1, hfd2.2.2.1, trivial⟩ hcl1 hcl2 (RpL.keep (w := wr) (w' := wr.drew) (S := fun b => b < w.heap.size) (S' := fun b => b < wr.drew.heap.size) (fun b hb => rfl) (fun b hb => Nat.lt_of_lt_of_le hb hz) _ _ hrs1) (RpL.keep (w := wr) (w' := wr.drew) (S := fun b => b < w.heap.size) (S' := fun b => b < wr.drew.heap.size) (fun b hb => rfl) (fun b hb => Nat.lt_of_lt_of_le hb hz) _ _ hrs2))
        have HD := Lib.hid (sameL_drop hd1 hd2)
        have HA1 := Lib.hid hA1
        have HA2 := Lib.hid hA2
        subst hA1
        subst hA2
        obtain ⟨q, hq⟩ : ∃ q, q = same1 k1 n1 s1 x1 k2 n2 s2 x2 := ⟨_, rfl⟩
        rw [← hq] at SV HD
        have d0 : wr.drew.cell? ⟨b, o + i * 4, none⟩ = _ := c0
        have d1 : wr.drew.cell? ⟨b, o + i * 4 + 1, none⟩ = _ := c1
        have d2 : wr.drew.cell? ⟨b, o + i * 4 + 2, none⟩ = _ := c2
        have d3 : wr.drew.cell? ⟨b, o + i * 4 + 3, none⟩ = _ := c3
        have f0 : wr.drew.cell? ⟨b', o' + i * 4, none⟩ = _ := e0
        have f1 : wr.drew.cell? ⟨b', o' + i * 4 + 1, none⟩ = _ := e1
        have f2 : wr.drew.cell? ⟨b', o' + i * 4 + 2, none⟩ = _ := e2
        have f3 : wr.drew.cell? ⟨b', o' + i * 4 + 3, none⟩ = _ := e3
        clear hq hd1 hd2 hrs1 hrs2 hfd1 hfd2
        go_wp2_with fail
        go_still_tail 8, (by kernel_rfl)
        change wpList _ _ _ _ _ wr.drew
        go_wp2_with fail
        refine SV.out.mono ?_
        rintro e w5 ⟨rfl, hb5⟩
        have HB5 := Lib.hid (show Below w.heap.size w w5 from (hbr.out.drew).trans (below_le' hb5 hz))
        clear hb5 c0 c1 c2 c3 e0 e1 e2 e3 d0 d1 d2 d3 f0 f1 f2 f3
        cases q with
        | true =>
          go_wp2_with fail
          go_roundg g
          case measure => omega
          case rel => exact ⟨i + 1, by go_num, by omega, HB5, by show sameL _ _ = _; rw [← hsm.out, HD.out, Bool.true_and]⟩
        | false =>
          go_wp2_with fail
          go_ret
          exact ⟨ret_bool (by rw [← hsm.out, HD.out, Bool.false_and]), HB5.out⟩
      · obtain rfl : i = la.len := by omega
        have HF := Lib.hid (show sameL la lb = true by rw [← hsm.out, VL.drop_len, HL.out, VL.drop_len]; rfl)
        go_wp2_with fail
        go_ret
        exact ⟨ret_bool HF.out.symm, hbr.out⟩
  · have hle : ((la.len : Int) != (lb.len : Int)) = true := by simp; omega
    have HF := Lib.hid (sameL_len la lb hlen)
    clear hlen hr1 hr2
    go_enter Tryz.func28, Tryz.ntmps28
    go_wp2_with fail
    go_ret
    exact ⟨ret_bool HF.out.symm, Below.refl _ _⟩

theorem sames_c (N : Nat) : SamesC N := by
  induction N using Nat.strongRecOn with
  | _ N ih => exact sames_step N ih
/-- SameValue, for any two values. -/
theorem sameV_c (k n : Int) (s : ByteArray) (a : VL) (sa : Option Addr) (ca : Nat) (k' n' : Int) (s' : ByteArray) (a' : VL) (sa' : Option Addr) (ca' : Nat) (w : World)
    (hf : (val1 k n s a).fit) (hf' : (val1 k' n' s' a').fit) (hc : a.len ≤ ca) (hc' : a'.len ≤ ca') (hr : RpL w (fun b => b < w.heap.size) a sa) (hr' : RpL w (fun b => b < w.heap.size) a' sa') :
    Calls Tryz.prog 17 #[.agg #[.int .i64 k, .int .i64 n, .string s, .slice sa a.len ca], .agg #[.int .i64 k', .int .i64 n', .string s', .slice sa' a'.len ca']] w fun e w' => e = .returned (.bool (same1 k n s a k' n' s' a')) ∧ Below w.heap.size w w' :=
  sameV_of k n s a sa ca k' n' s' a' sa' ca' w (sames_c _) hf hf' hc hc' hr hr'
end Go.Proofs.YtfganjmadehhaaaGreatDoor
namespace Go.Proofs.YtfganjmadehhaaaGreatDoor
open Go.RowKit Go.Lib
set_option linter.unusedVariables false

set_option maxRecDepth 100000 in
set_option maxHeartbeats 2000000 in
theorem sameFault_c (c : Int) (p : Bool) (pos : Int) (w : World) :
    Calls Tryz.prog 23 #[fltV c p pos, fltV c p pos] w fun e w' => e = .returned (.bool true) ∧ Below w.heap.size w w' := by
  obtain ⟨w1, hw1⟩ : ∃ w1, w1 = (w.alloc (.cells #[.int .i64 c, .bool p, .int .i64 pos, .int .i64 0, .int .i64 0, .string ⟨#[]⟩, .slice none 0 0] 40)).alloc (.cells #[.int .i64 c, .bool p, .int .i64 pos, .int .i64 0, .int .i64 0, .string ⟨#[]⟩, .slice none 0 0] 40) := ⟨_, rfl⟩
  have hb1 : Below w.heap.size w w1 := by rw [hw1]; exact ((Below.refl _ _).alloc (Nat.le_refl _) _).alloc (by simp) _
  have hS : StF w1 w.heap.size (.int .i64 c) (.bool p) (.int .i64 pos) (.int .i64 0) (.int .i64 0) (.string ⟨#[]⟩) (.slice none 0 0) := by
    rw [hw1]; exact (Below.heap_alloc _ _ _ (by simp)).trans (StF.new w _ _ _ _ _ _ _)
  have hT : StF w1 (w.heap.size + 1) (.int .i64 c) (.bool p) (.int .i64 pos) (.int .i64 0) (.int .i64 0) (.string ⟨#[]⟩) (.slice none 0 0) := by
    rw [hw1]; have := StF.new (w.alloc (.cells #[.int .i64 c, .bool p, .int .i64 pos, .int .i64 0, .int .i64 0, .string ⟨#[]⟩, .slice none 0 0] 40)) (.int .i64 c) (.bool p) (.int .i64 pos) (.int .i64 0) (.int .i64 0) (.string ⟨#[]⟩) (.slice none 0 0)
    rw [World.size_alloc] at this; exact this
  have hfit : (val1 0 0 ⟨#[]⟩ .nil).fit := ⟨by decide, by decide, trivial, trivial⟩
  have VC := Lib.hid (sameV_c 0 0 ⟨#[]⟩ .nil none 0 0 0 ⟨#[]⟩ .nil none 0 w1 hfit hfit (Nat.le_refl _) (Nat.le_refl _) trivial trivial)
  rw [same1_iff.2 ⟨rfl, rfl, rfl, rfl⟩, show VL.nil.len = 0 from rfl] at VC
  have HW := Lib.hid hw1
  have HS := Lib.hid hS
  have HT := Lib.hid hT
  have HB := Lib.hid hb1
  unfold fltV
  clear hb1 hS hT hw1 hfit
  go_enter Tryz.func23, Tryz.ntmps23
  go_wp2_with fail
  rw [← HW.out]
  refine VC.out.mono ?_
  rintro e w2 ⟨rfl, hb2⟩
  obtain ⟨c0, c1, c2, c3, c4, c5, c6⟩ := (HS.out.below hb2).cells
  obtain ⟨d0, d1, d2, d3, d4, d5, d6⟩ := (HT.out.below hb2).cells
  have HB2 := Lib.hid (HB.out.trans (belowLe hb2 HB.out.size))
  clear hb2
  go_wp2_with fail
  go_returns
  exact ⟨by simp, HB2.out⟩

set_option maxRecDepth 100000 in
set_option maxHeartbeats 2000000 in
theorem same_c (v : Value) (c : Int) (p : Bool) (pos : Int) (w : World) (H : ∀ W, Below w.heap.size w W → Calls Tryz.prog 24 #[v] W fun e w' => e = .returned (fltV c p pos) ∧ Below W.heap.size W w') :
    Calls Tryz.prog 13 #[v, fltV c p pos] w fun e w' => e = .returned (.bool true) ∧ Below w.heap.size w w' := by
  obtain ⟨w1, hw1⟩ : ∃ w1, w1 = w.alloc (.cells #[.int .i64 c, .bool p, .int .i64 pos, .int .i64 0, .int .i64 0, .string ⟨#[]⟩, .slice none 0 0] 40) := ⟨_, rfl⟩
  have hb1 : Below w.heap.size w w1 := by rw [hw1]; exact (Below.refl _ _).alloc (Nat.le_refl _) _
  have hS : StF w1 w.heap.size (.int .i64 c) (.bool p) (.int .i64 pos) (.int .i64 0) (.int .i64 0) (.string ⟨#[]⟩) (.slice none 0 0) := by rw [hw1]; exact StF.new w _ _ _ _ _ _ _
  obtain ⟨S, hSd⟩ : ∃ S : World → Prop, S = fun W => W.cell? ⟨w.heap.size, 0, none⟩ = some (.int .i64 c) ∧ W.cell? ⟨w.heap.size, 1, none⟩ = some (.bool p) ∧ W.cell? ⟨w.heap.size, 2, none⟩ = some (.int .i64 pos) ∧ W.cell? ⟨w.heap.size, 3, none⟩ = some (.int .i64 0) ∧
    W.cell? ⟨w.heap.size, 4, none⟩ = some (.int .i64 0) ∧ W.cell? ⟨w.heap.size, 5, none⟩ = some (.string ⟨#[]⟩) ∧ W.cell? ⟨w.heap.size, 6, none⟩ = some (.slice none 0 0) ∧ Below w1.heap.size w1 W := ⟨_, rfl⟩
  have KS : ∀ W, Below w1.heap.size w1 W → S W := fun W hW => by
    obtain ⟨c0, c1, c2, c3, c4, c5, c6⟩ := (hS.below hW).cells
    rw [hSd]; exact ⟨c0, c1, c2, c3, c4, c5, c6, hW⟩
  have BS : ∀ W, S W → Below w1.heap.size w1 W := fun W h => by rw [hSd] at h; exact h.2.2.2.2.2.2.2
  have C1 := Lib.hid (fun W (h : S W) => (H W (hb1.trans (belowLe (BS W h) hb1.size))).mono (R' := fun e W' => e = .returned (fltV c p pos) ∧ S W') fun e W' h' => ⟨h'.1, KS _ ((BS W h).trans (belowLe h'.2 (BS W h).size))⟩)
  have C2 := Lib.hid (fun W (h : S W) => (sameFault_c c p pos W).mono (R' := fun e W' => e = .returned (.bool true) ∧ S W') fun e W' h' => ⟨h'.1, KS _ ((BS W h).trans (belowLe h'.2 (BS W h).size))⟩)
  have K0 : S w1.drew := KS _ (Below.refl _ _).drew
  have BA := Lib.hid (fun W (h : S W) => hb1.trans (belowLe (BS W h) hb1.size))
  have HW := Lib.hid hw1
  unfold fltV
  unfold fltV at C1 C2
  clear KS BS hS hb1 hw1 H
  subst hSd
  go_enter Tryz.func13, Tryz.ntmps13
  go_wp2_with fail
  rw [← HW.out]
  go_region_held3 (fun W => W.cell? ⟨w.heap.size, 0, none⟩ = some (.int .i64 c) ∧ W.cell? ⟨w.heap.size, 1, none⟩ = some (.bool p) ∧ W.cell? ⟨w.heap.size, 2, none⟩ = some (.int .i64 pos) ∧ W.cell? ⟨w.heap.size, 3, none⟩ = some (.int .i64 0) ∧
    W.cell? ⟨w.heap.size, 4, none⟩ = some (.int .i64 0) ∧ W.cell? ⟨w.heap.size, 5, none⟩ = some (.string ⟨#[]⟩) ∧ W.cell? ⟨w.heap.size, 6, none⟩ = some (.slice none 0 0) ∧ Below w1.heap.size w1 W)
    (first | assumption | exact K0)
    (first
      | (go_at_call 24; refine (C1.out _ ?_).mono ?_; assumption; rintro e w' ⟨rfl, hs⟩)
      | (go_at_call 23; refine (C2.out _ ?_).mono ?_; assumption; rintro e w' ⟨rfl, hs⟩))
  all_goals
    go_wp2_with fail
    go_returns
    exact ⟨rfl, BA.out _ (by assumption)⟩
end Go.Proofs.YtfganjmadehhaaaGreatDoor
namespace Go.Proofs.YtfganjmadehhaaaGreatDoor
open Go.RowKit Go.Lib
set_option linter.unusedVariables false

theorem escL_snoc (l : List UInt8) (c : UInt8) : escL (l ++ [c]) = escL l ++ (if c = 34 ∨ c = 92 then [92, c] else [c]) := by
  induction l with
  | nil => rw [List.nil_append, escL, escL]; rfl
  | cons x r ih => rw [List.cons_append, escL, escL, ih]; split <;> rfl
theorem ext_one (s : ByteArray) (i : Nat) (h : i < s.size) : s.extract i (i + 1) = ⟨#[s[i]]⟩ := by
  have : (s.extract i (i + 1)).data.toList = [s[i]] := by
    rw [ByteArray.data_extract, Array.toList_extract, List.extract_eq_take_drop, show i + 1 - i = 1 by omega, List.drop_eq_getElem_cons (by rw [Array.length_toList]; exact h), List.take_succ_cons, List.take_zero]
    rfl
  apply ByteArray.ext
  rw [← Array.toArray_toList (xs := (s.extract i (i + 1)).data), this]

set_option maxHeartbeats 2000000 in
theorem quoted_c (s : ByteArray) (w : World) (hs : s.size ≤ 1000000) :
    Calls Tryz.prog 47 #[.string s] w fun e w' => e = .returned (.string ⟨(quoL s.data.toList).toArray⟩) ∧ w = w' := by
  go_enter Tryz.func47, Tryz.ntmps47
  go_wp2_with fail
  go_loopg [3, 4] s.size (fun kk v3 v4 wr => ∃ (X : ByteArray) (i : Nat), v3 = .string X ∧ v4 = .int .i64 i ∧ i + kk = s.size ∧ Hid (X.data.toList = 34 :: escL (s.data.toList.take i)) ∧ w = wr)
  case atStart => exact ⟨⟨#[34]⟩, 0, rfl, rfl, by omega, rfl, rfl⟩
  case round =>
    obtain ⟨X, i, rfl, rfl, hik, hX, rfl⟩ := hrel
    have hXz : X.size = 1 + (escL (s.data.toList.take i)).length := by
      have h1 : X.size = X.data.toList.length := by rw [Array.length_toList]; rfl
      rw [h1, hX.out, List.length_cons]; omega
    have hel := (escL_len (s.data.toList.take i)).2
    have htl : (s.data.toList.take i).length ≤ i := by rw [List.length_take]; omega
    have hXb : X.size ≤ 3000000 := by omega
    by_cases hi : i < s.size
    · obtain ⟨g, rfl⟩ : ∃ g, gk = g + 1 := ⟨gk - 1, by omega⟩
      have hts := Lib.hid (take_snoc s i hi)
      have hx := ext_one s i hi
      clear hXz hel htl
      by_cases c34 : s[i] = 34
      · have c1 : (((s[i]'hi).toNat : Int) == 34) = true := by rw [c34]; rfl
        have HN := Lib.hid (show (X ++ ⟨#[92]⟩ ++ ⟨#[s[i]]⟩ : ByteArray).data.toList = 34 :: escL (s.data.toList.take (i + 1)) by rw [hts.out, escL_snoc, if_pos (.inl c34)]; simp [hX.out])
        clear c34
        go_wp2_with fail
        go_roundg g
        case measure => omega
        case rel => exact ⟨_, i + 1, rfl, by go_num, by omega, HN.out, rfl⟩
      · by_cases c92 : s[i] = 92
        · have c1 : (((s[i]'hi).toNat : Int) == 34) = false := by rw [c92]; rfl
          have c2 : (((s[i]'hi).toNat : Int) == 92) = true := by rw [c92]; rfl
          have HN := Lib.hid (show (X ++ ⟨#[92]⟩ ++ ⟨#[s[i]]⟩ : ByteArray).data.toList = 34 :: escL (s.data.toList.take (i + 1)) by rw [hts.out, escL_snoc, if_pos (.inr c92)]; simp [hX.out])
          clear c34 c92
          go_wp2_with fail
          go_roundg g
          case measure => omega
          case rel => exact ⟨_, i + 1, rfl, by go_num, by omega, HN.out, rfl⟩
        · have c1 := (ne_byte (x := s[i]) 34 34 rfl c34).1
          have c2 := (ne_byte (x := s[i]) 92 92 rfl c92).1
          have HN := Lib.hid (show (X ++ ⟨#[s[i]]⟩ : ByteArray).data.toList = 34 :: escL (s.data.toList.take (i + 1)) by
            rw [hts.out, escL_snoc, if_neg (by rintro (h | h); exact c34 h; exact c92 h)]; simp [hX.out])
          clear c34 c92
          go_wp2_with fail
          go_roundg g
          case measure => omega
          case rel => exact ⟨_, i + 1, rfl, by go_num, by omega, HN.out, rfl⟩
    · obtain rfl : i = s.size := by omega
      have HN := Lib.hid (show (X ++ ⟨#[34]⟩ : ByteArray) = ⟨(quoL s.data.toList).toArray⟩ by
        apply ByteArray.ext
        have h1 := hX.out
        rw [List.take_of_length_le (by rw [Array.length_toList]; exact Nat.le_refl _)] at h1
        have h2 : (X ++ ⟨#[34]⟩ : ByteArray).data.toList = quoL s.data.toList := by simp [h1, quoL]
        rw [← h2])
      clear hXz hel htl
      go_wp2_with fail
      go_ret
      exact ⟨ret_str HN.out, rfl⟩
end Go.Proofs.YtfganjmadehhaaaGreatDoor
