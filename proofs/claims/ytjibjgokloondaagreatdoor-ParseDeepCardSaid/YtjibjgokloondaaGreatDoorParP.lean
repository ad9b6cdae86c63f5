/- Contracts of the functions that the statement reaches, and the plain mathematics beneath: several texts joined. -/
import Derived.Test.YtjibjgokloondaaGreatDoorParO
import Derived.Test.YtjibjgokloondaaGreatDoorParN
import Derived.Deep.RegionHeld3
import Derived.StillTailTactics
import Derived.IntWalk
import Derived.Test.YtjibjgokloondaaGreatDoorParD
import Derived.Test.YtjibjgokloondaaGreatDoorParA
import Derived.Test.YtjibjgokloondaaGreatDoorParB
import Derived.Test.YtjibjgokloondaaGreatDoorParC
import Derived.Test.YtjibjgokloondaaGreatDoorParE
import Derived.Test.YtjibjgokloondaaGreatDoorParF
import Derived.Test.YtjibjgokloondaaGreatDoorParG
import Derived.Test.YtjibjgokloondaaGreatDoorParH
import Derived.Test.YtjibjgokloondaaGreatDoorParI
import Derived.Test.YtjibjgokloondaaGreatDoorParJ
import Derived.Test.YtjibjgokloondaaGreatDoorParK
import Derived.Test.YtjibjgokloondaaGreatDoorParL
import Derived.Test.YtjibjgokloondaaGreatDoorParM
namespace Go.Proofs.YtjibjgokloondaaGreatDoor
open Go.RowKit Go.Lib
set_option linter.unusedVariables false

theorem quiet_add_left {P : Program} {f : FuncId} {args : Array Value} {w : World} {a n : Nat} {v : Value}
    (h : Calls P f args (w.drewN (a + n)) fun e w' => e = .returned v ∧ w.drewN (a + n) = w') :
    Calls P f args (w.drewN (a + n)) fun e w'' => e = .returned v ∧ ∃ m, w'' = w.drewN (a + m) :=
  h.mono fun _ _ ⟨he, hm⟩ => ⟨he, n, hm.symm⟩
theorem quiet_left {P : Program} {f : FuncId} {args : Array Value} {w : World} {n : Nat} {v : Value}
    (h : Calls P f args (w.drewN n) fun e w' => e = .returned v ∧ w.drewN n = w') : Calls P f args (w.drewN n) fun e w'' => e = .returned v ∧ ∃ m, w'' = w.drewN m :=
  h.mono fun _ _ ⟨he, hm⟩ => ⟨he, n, hm.symm⟩
theorem tab_keep {P : Program} {w w' : World} {n : String} {g : Nat} {k : IntKind} {zs : List Int} (hg : P.globalNamed n = some g) (h : TabIs P w n k zs) (e : w'.heap[g]? = w.heap[g]?) : TabIs P w' n k zs := by
  unfold TabIs World.var? at *
  rw [hg] at h ⊢
  simp only [Option.bind_some] at h ⊢
  rw [e]; exact h
/-- What lex asks of the variables. -/
structure LxEnv (w : World) (ea : Nat → Addr) : Prop where
  err : ErrsAt w ea
  spc : SpaceAt w
  str : StrcAt w
theorem LxEnv.below {w w' : World} {ea : Nat → Addr} {B : Nat} (h : LxEnv w ea) (hb : Below B w w') (hB : 24 ≤ B) : LxEnv w' ea := by
  have hk : ∀ p : Addr, p.block < 24 → w'.cell? p = w.cell? p := fun p hp => World.cell?_of_block (w := w) (hb.block p.block (by omega))
  obtain ⟨t1, p1, h1⟩ := h.str.syn
  obtain ⟨t2, p2, h2⟩ := h.str.rng
  refine ⟨h.err.below hb hB, tab_keep (g := 17) rfl h.spc (hb.block _ (Nat.lt_of_lt_of_le (by decide) hB)), ⟨⟨t1, p1, (hk ⟨19, 0, none⟩ (by decide)).trans h1⟩, ⟨t2, p2, (hk ⟨20, 0, none⟩ (by decide)).trans h2⟩, tab_keep (g := 21) rfl h.str.tab (hb.block _ (Nat.lt_of_lt_of_le (by decide) hB)), ?_⟩⟩
  have := h.str.room; have := hb.size; omega

/-- An error around a line. -/
def LxBad (B : Nat) (line : Int) (ev : Value) (e : Ending) (w' : World) : Prop :=
  ∃ A, B ≤ A ∧ w'.heap[A]? = some (.cells #[.int .i64 line, ev] 61 (0, 0)) ∧ e = .returned (.iface 58 (.pointer (some ⟨A, 0, none⟩)))
/-- What a word's walk shows. -/
def LxRes (ea : Nat → Addr) (R : Nat) (s : ByteArray) (i : Nat) (line : Int) (l : List Tok) (r : WR) (w : World) (e : Ending) (w' : World) : Prop :=
  Below R w w' ∧ match r with
  | .bad c => LxBad R line (.iface 204 (.pointer (some (ea c)))) e w'
  | .word n t => e = .returned .nilIface ∧ LxSt w' R s (i + n) line (l ++ [t])
theorem LxRes.mkBad {ea : Nat → Addr} {R c : Nat} {s : ByteArray} {i : Nat} {line : Int} {l : List Tok} {r : WR} {w w1 : World} (hr : r = .bad c) (hb : Below R w w1) (hR : R ≤ w1.heap.size) :
    LxRes ea R s i line l r w (.returned (.iface 58 (.pointer (some ⟨w1.heap.size, 0, none⟩)))) (w1.alloc (.cells #[.int .i64 line, .iface 204 (.pointer (some (ea c)))] 61)) := by
  subst hr
  exact ⟨hb.alloc hR _, _, hR, heap_alloc_new w1 _, rfl⟩
theorem LxRes.mkWord {ea : Nat → Addr} {R n : Nat} {s : ByteArray} {i : Nat} {line : Int} {l : List Tok} {r : WR} {t : Tok} {w w1 : World} (hr : r = .word n t) (hb : Below R w w1) (h : LxSt w1 R s (i + n) line (l ++ [t])) :
    LxRes ea R s i line l r w (.returned .nilIface) w1 := by
  subst hr
  exact ⟨hb, rfl, h⟩
theorem below_drewN {B : Nat} {w w' : World} (h : Below B w w') (n : Nat) : Below B w (w'.drewN n) := ⟨h.os, h.tape, h.output, h.size, h.block⟩
theorem contains_keys (x : ByteArray) : containsS (keysL.take 19) x = keysL.contains x := by
  have hlaw : ∀ a b : ByteArray, (a == b) = true ↔ a = b := fun a b => by
    show (a.data == b.data) = true ↔ a = b
    rw [beq_iff_eq]
    exact ⟨fun e => by cases a; cases b; simp only at e; rw [e], fun e => by rw [e]⟩
  rw [show keysL.take 19 = keysL from rfl, Bool.eq_iff_iff, containsS_iff, List.contains_iff_exists_mem_beq]
  constructor
  · intro h; exact ⟨x, h, (hlaw x x).2 rfl⟩
  · rintro ⟨y, h1, h2⟩; rw [(hlaw x y).1 h2]; exact h1
theorem sum_in (i n : Nat) (h : i + n ≤ 1000000000) : IntKind.i64.wrap ((i : Int) + (n : Int)) = (i : Int) + (n : Int) ∧ (0 : Int) ≤ (i : Int) + (n : Int) ∧ ((i : Int) + (n : Int)).toNat = i + n := ⟨IntWalk.i64_in _ (by omega), by omega, by omega⟩
/-- A word in a block of its own. -/
def TkB (w : World) (g : Nat) (a b c d e f h : Value) : Prop := w.heap[g]? = some (.cells #[a, b, c, d, e, f, h] 75 (0, 0))
section
variable {w w' : World} {g : Nat} {a b c d e f h : Value}
theorem TkB.new (w : World) (a b c d e f h : Value) : TkB (w.alloc (.cells #[a, b, c, d, e, f, h] 75)) w.heap.size a b c d e f h := heap_alloc_new w _
theorem TkB.c0 (H : TkB w g a b c d e f h) : w.cell? ⟨g, 0, none⟩ = some a := cell_of_row w g 0 _ _ _ H
theorem TkB.c1 (H : TkB w g a b c d e f h) : w.cell? ⟨g, 1, none⟩ = some b := cell_of_row w g 1 _ _ _ H
theorem TkB.c2 (H : TkB w g a b c d e f h) : w.cell? ⟨g, 2, none⟩ = some c := cell_of_row w g 2 _ _ _ H
theorem TkB.c3 (H : TkB w g a b c d e f h) : w.cell? ⟨g, 3, none⟩ = some d := cell_of_row w g 3 _ _ _ H
theorem TkB.c4 (H : TkB w g a b c d e f h) : w.cell? ⟨g, 4, none⟩ = some e := cell_of_row w g 4 _ _ _ H
theorem TkB.c5 (H : TkB w g a b c d e f h) : w.cell? ⟨g, 5, none⟩ = some f := cell_of_row w g 5 _ _ _ H
theorem TkB.c6 (H : TkB w g a b c d e f h) : w.cell? ⟨g, 6, none⟩ = some h := cell_of_row w g 6 _ _ _ H
theorem TkB.fr (H : TkB w g a b c d e f h) (k : Nat) : w.frozen? ⟨g, k, none⟩ = false := by unfold TkB at H; simp [World.frozen?, H]
theorem TkB.below {B : Nat} (H : TkB w g a b c d e f h) (hb : Below B w w') (hB : g < B) : TkB w' g a b c d e f h := (hb.block g hB).trans H
theorem TkB.set0 (H : TkB w g a b c d e f h) (u : Value) : TkB (w.setCell ⟨g, 0, none⟩ u) g u b c d e f h := by
  unfold TkB at H ⊢; simp [World.setCell, Array.getElem?_modify, H]
end
theorem cell_below7 {B : Nat} {w w' : World} (hb : Below B w w') {p : Addr} {v : Value} (h : w.cell? p = some v) (hp : p.block < B) : w'.cell? p = some v := (hb.cell hp).trans h
theorem run_le (s : ByteArray) (p : UInt8 → Bool) (i : Nat) (h : i ≤ s.size) : i + run s p i ≤ s.size := runN_le s p _ i h
theorem run_pos (s : ByteArray) (p : UInt8 → Bool) (i : Nat) (h : i < s.size) (hp : p (pk s i) = true) : 1 ≤ run s p i := by
  unfold run; rw [runN_step h hp]; omega
theorem enters_name1 : ∀ (args : Array Value) (w : World), (callFunc 68 args).run Tryz.prog w = .ok (.enter 68 args) w := enters_of Tryz.func68 (by kernel_rfl) rfl
theorem enters_code1 : ∀ (args : Array Value) (w : World), (callFunc 74 args).run Tryz.prog w = .ok (.enter 74 args) w := enters_of Tryz.func74 (by kernel_rfl) rfl
theorem enters_digit : ∀ (args : Array Value) (w : World), (callFunc 49 args).run Tryz.prog w = .ok (.enter 49 args) w := enters_of Tryz.func49 (by kernel_rfl) rfl

def nameR (s : ByteArray) (i : Nat) (line : Int) : WR :=
  let n := run s (fun c => smB c || digB c) i
  if 32 < n ∨ (i + n < s.size ∧ gtB (pk s (i + n)) = true) then .bad 111
  else .word n ⟨if keysL.contains (s.extract i (i + n)) then 2 else 1, line, s.extract i (i + n), 0, 0, ⟨#[]⟩⟩
theorem wordR_name {s : ByteArray} {i : Nat} {line : Int} (h : smB (pk s i) = true) : wordR s i line = nameR s i line := by
  unfold wordR nameR
  simp only [h, if_true]

set_option maxRecDepth 100000 in
set_option maxHeartbeats 2000000 in
theorem name_c (R : Nat) (s : ByteArray) (i : Nat) (line : Int) (l : List Tok) (ea : Nat → Addr) (w : World) (h : LxSt w R s i line l) (he : LxEnv w ea) (hi : i < s.size) (hs : s.size ≤ 1000000000) (hR : 24 ≤ R) (hsm : smB (pk s i) = true) :
    Calls Tryz.prog 48 #[.pointer (some ⟨R, 0, none⟩)] w (LxRes ea R s i line l (nameR s i line) w) := by
  have hlt := h.lt
  obtain ⟨v, L, ha, _⟩ := id h
  have hc0 := ha.c0; have hc1 := ha.c1
  have RC := Lib.hid (run_c _ _ enters_name1 name_is R s i line v i w ha (by omega) hs)
  obtain ⟨n, hn⟩ : ∃ n, n = run s (fun c => smB c || digB c) i := ⟨_, rfl⟩
  have hn1 : 1 ≤ n := by rw [hn]; exact run_pos s _ i hi (by simp [hsm])
  have hn2 : i + n ≤ s.size := by rw [hn]; exact run_le s _ i (by omega)
  obtain ⟨r, hr⟩ : ∃ r, r = nameR s i line := ⟨_, rfl⟩
  have HR : Hid (r = if 32 < n ∨ (i + n < s.size ∧ gtB (pk s (i + n)) = true) then .bad 111
    else .word n ⟨if keysL.contains (s.extract i (i + n)) then 2 else 1, line, s.extract i (i + n), 0, 0, ⟨#[]⟩⟩) := by rw [hr, hn]; rfl
  rw [← hr]
  rw [← hn] at RC
  have HH := Lib.hid h
  have HA := Lib.hid ha
  have HE := Lib.hid he
  clear hr hn h he ha
  by_cases h32 : 32 < n
  · have HB := Lib.hid (HR.out.trans (if_pos (.inl h32)))
    have hd : decide ((n : Int) > 32) = true := by simp; omega
    have hd' : decide (32 < (n : Int)) = true := by simp; omega
    have e1 := HE.out.err.syn
    clear HR
    go_enter Tryz.func48, Tryz.ntmps48
    go_wp2_with fail
    refine RC.out.mono ?_
    rintro e w1 ⟨rfl, n1, rfl⟩
    go_wp2_with fail
    go_quiet (fail)
    go_wp2_with fail
    refine (bad_c R s i line v _ _ (by exact HA.out)).mono ?_
    rintro e w2 ⟨rfl, rfl⟩
    go_wp2_with fail
    go_ret
    exact LxRes.mkBad HB.out (below_drewN (Below.refl _ _) _) (Nat.le_of_lt hlt)
  · have hle : (n : Int) ≤ 32 := by omega
    have hd : decide ((n : Int) > 32) = false := by simp; omega
    have hd' : decide (32 < (n : Int)) = false := by simp; omega
    by_cases hbad : i + n < s.size ∧ gtB (pk s (i + n)) = true
    · have HB := Lib.hid (HR.out.trans (if_pos (.inr hbad)))
      have hlt2 := hbad.1
      have GC := Lib.hid (fun W => by have := great_c (pk s (i + n)) W; rw [hbad.2, pk_in s (i + n) hlt2] at this; exact this)
      have hdx : decide ((i : Int) + (n : Int) < (s.size : Int)) = true := by simp; omega
      have hdy : (i : Int) + (n : Int) < (s.size : Int) := by omega
      have e1 := HE.out.err.syn
      obtain ⟨g1, g2, g3⟩ := sum_in i n (by omega)
      clear HR hbad h32
      go_enter Tryz.func48, Tryz.ntmps48
      go_wp2_with fail
      refine RC.out.mono ?_
      rintro e w1 ⟨rfl, n1, rfl⟩
      go_wp2_with fail
      go_quiet ((go_at_call 51; exact quiet_add_left (GC.out _)))
      go_wp2_with fail
      refine (bad_c R s i line v _ _ (by exact HA.out)).mono ?_
      rintro e w2 ⟨rfl, rfl⟩
      go_wp2_with fail
      go_ret
      exact LxRes.mkBad HB.out (below_drewN (Below.refl _ _) _) (Nat.le_of_lt hlt)
    · have HB := Lib.hid (HR.out.trans (if_neg (by rintro (h | h); exact h32 h; exact hbad h)))
      obtain ⟨g1, g2, g3⟩ := sum_in i n (by omega)
      have hdz : (i : Int) + (n : Int) ≤ (s.size : Int) := by omega
      have hdw : (i : Int) ≤ (i : Int) + (n : Int) := by omega
      obtain ⟨sub, hsub⟩ : ∃ sub, sub = s.extract i (i + n) := ⟨_, rfl⟩
      have HS := Lib.hid hsub
      rw [← hsub] at HB
      cases hk : keysL.contains sub with
      | true =>
        have HK := Lib.hid hk
        have HB2 := Lib.hid (show r = .word n ⟨2, line, sub, 0, 0, ⟨#[]⟩⟩ by rw [HB.out, hk]; rfl)
        clear HB
        by_cases hin : i + n < s.size
        · have hg : gtB (pk s (i + n)) = false := by
            cases hq : gtB (pk s (i + n)) with
            | false => rfl
            | true => exact absurd ⟨hin, hq⟩ hbad
          have GC := Lib.hid (fun W => by have := great_c (pk s (i + n)) W; rw [hg, pk_in s (i + n) hin] at this; exact this)
          have hdx : decide ((i : Int) + (n : Int) < (s.size : Int)) = true := by simp; omega
          have hdy : (i : Int) + (n : Int) < (s.size : Int) := by omega
          clear hg
          clear HR hbad h32 hk hsub
          go_enter Tryz.func48, Tryz.ntmps48
          go_wp2_with fail
          refine RC.out.mono ?_
          rintro e w1 ⟨rfl, n1, rfl⟩
          go_wp2_with fail
          go_quiet ((go_at_call 51; exact quiet_add_left (GC.out _)))
          go_wp2_with fail
          generalize hwq : World.drewN _ _ = wq
          have q0 : wq.cell? ⟨R, 0, none⟩ = some (.string s) := by rw [← hwq]; exact hc0
          have q1 : wq.cell? ⟨R, 1, none⟩ = some (.int .i64 i) := by rw [← hwq]; exact hc1
          have hqb : Below w.heap.size w wq := by rw [← hwq]; exact ⟨rfl, rfl, rfl, Nat.le_refl _, fun _ _ => rfl⟩
          have HQ := Lib.hid hqb
          clear hwq hqb
          go_region_held3 (fun W => W.cell? ⟨R, 0, none⟩ = some (.string s) ∧ W.cell? ⟨R, 1, none⟩ = some (.int .i64 i)) (first | assumption | exact ⟨hc0, hc1⟩ | go_keep) (fail)
          go_wp2_with fail
          rw [← HS.out]
          generalize hw3 : World.drew _ = w3
          have ht3 : TkB w3 wq.heap.size (.int .i64 1) (.int .i64 0) (.string sub) (.int .i64 0) (.int .i64 0) (.string ⟨#[]⟩) (.slice none 0 0) := by rw [← hw3]; exact TkB.new wq _ _ _ _ _ _ _
          have hb3 : Below w.heap.size w w3 := by rw [← hw3]; exact (HQ.out.alloc HQ.out.size _).drew
          have hz3 : wq.heap.size < w3.heap.size := by rw [← hw3]; show wq.heap.size < (wq.alloc _).heap.size; simp
          have hk2 := ht3.c2
          have K1 := Lib.hid (fun W (h : W.cell? ⟨wq.heap.size, 2, none⟩ = some (.string sub) ∧ Below w3.heap.size w3 W) => (keys_c W (HE.out.below (hb3.trans (below_le' h.2 hb3.size)) (by omega)).spc).mono (R' := fun e W' => ∃ kg, e = .returned (.slice (some ⟨kg, 0, none⟩) 19 19) ∧ StrsAt W' kg keysL ∧ (W'.cell? ⟨wq.heap.size, 2, none⟩ = some (.string sub) ∧ Below w3.heap.size w3 W')) fun e W' ⟨kg, h1, h2, h3, h4⟩ =>
            ⟨kg, h1, h3, cell_below7 h4 h.1 (by show wq.heap.size < W.heap.size; have := h.2.size; omega), h.2.trans (below_le' h4 h.2.size)⟩)
          have K2 := Lib.hid (fun W (kg : Nat) (h : StrsAt W kg keysL) => (Tryz.slices_Contains_string kg 0 19 19 keysL sub W (by decide) (by decide) (by exact h)).mono (R' := fun e W' => e = .returned (.bool true) ∧ W = W') fun e W' h' => ⟨by rw [h'.1, contains_keys, HK.out], h'.2.symm⟩)
          have K0 : w3.drew.cell? ⟨wq.heap.size, 2, none⟩ = some (.string sub) ∧ Below w3.heap.size w3 w3.drew := ⟨hk2, (Below.refl _ _).drew⟩
          have HT3 := Lib.hid ht3
          have HB3 := Lib.hid hb3
          clear hw3 ht3 hb3
          go_region_held3 (fun W => W.cell? ⟨wq.heap.size, 2, none⟩ = some (.string sub) ∧ Below w3.heap.size w3 W)
            (first | assumption | exact K0 | exact ⟨by assumption, by assumption⟩)
            (first
              | (go_at_call 71; refine (K1.out _ ?_).mono ?_; assumption; rintro e w5 ⟨kg, rfl, hst, hss⟩)
              | (go_at_call 70; refine (K2.out _ kg hst).mono ?_; rintro e w6 ⟨rfl, rfl⟩))
          clear K1 K2 K0 hk2
          obtain ⟨hs2, hs3⟩ := hss
          have t5 := HT3.out.below hs3 hz3
          have d0 := t5.c0; have d1 := t5.c1; have d2 := t5.c2; have d3 := t5.c3; have d4 := t5.c4; have d5 := t5.c5; have d6 := t5.c6; have f0 := t5.fr 0
          have hb5 := HB3.out.trans (below_le' hs3 HB3.out.size)
          have HB5 := Lib.hid hb5
          clear hs2 hs3 hst hb5 t5
          go_wp2_with fail
          refine (put_c R s i line l _ ?_ n hn1 hn2 hs ⟨2, 0, sub, 0, 0, ⟨#[]⟩⟩ 0 none 0).mono ?_
          · exact HH.out.below_self (HB5.out.setCell HQ.out.size _)
          rintro e w7 ⟨rfl, hb7, hst7⟩
          clear d0 d1 d2 d3 d4 d5 d6 f0
          go_wp2_with fail
          go_ret
          exact LxRes.mkWord HB2.out (Below.trans ((below_le' HB5.out (Nat.le_of_lt hlt)).setCell (Nat.le_trans (Nat.le_of_lt hlt) HQ.out.size) _) hb7) hst7
        · have hdx : decide ((i : Int) + (n : Int) < (s.size : Int)) = false := by simp; omega
          clear HR hbad h32 hk hsub
          go_enter Tryz.func48, Tryz.ntmps48
          go_wp2_with fail
          refine RC.out.mono ?_
          rintro e w1 ⟨rfl, n1, rfl⟩
          go_wp2_with fail
          go_quiet (fail)
          go_wp2_with fail
          generalize hwq : World.drewN _ _ = wq
          have q0 : wq.cell? ⟨R, 0, none⟩ = some (.string s) := by rw [← hwq]; exact hc0
          have q1 : wq.cell? ⟨R, 1, none⟩ = some (.int .i64 i) := by rw [← hwq]; exact hc1
          have hqb : Below w.heap.size w wq := by rw [← hwq]; exact ⟨rfl, rfl, rfl, Nat.le_refl _, fun _ _ => rfl⟩
          have HQ := Lib.hid hqb
          clear hwq hqb
          go_region_held3 (fun W => W.cell? ⟨R, 0, none⟩ = some (.string s) ∧ W.cell? ⟨R, 1, none⟩ = some (.int .i64 i)) (first | assumption | exact ⟨hc0, hc1⟩ | go_keep) (fail)
          go_wp2_with fail
          rw [← HS.out]
          generalize hw3 : World.drew _ = w3
          have ht3 : TkB w3 wq.heap.size (.int .i64 1) (.int .i64 0) (.string sub) (.int .i64 0) (.int .i64 0) (.string ⟨#[]⟩) (.slice none 0 0) := by rw [← hw3]; exact TkB.new wq _ _ _ _ _ _ _
          have hb3 : Below w.heap.size w w3 := by rw [← hw3]; exact (HQ.out.alloc HQ.out.size _).drew
          have hz3 : wq.heap.size < w3.heap.size := by rw [← hw3]; show wq.heap.size < (wq.alloc _).heap.size; simp
          have hk2 := ht3.c2
          have K1 := Lib.hid (fun W (h : W.cell? ⟨wq.heap.size, 2, none⟩ = some (.string sub) ∧ Below w3.heap.size w3 W) => (keys_c W (HE.out.below (hb3.trans (below_le' h.2 hb3.size)) (by omega)).spc).mono (R' := fun e W' => ∃ kg, e = .returned (.slice (some ⟨kg, 0, none⟩) 19 19) ∧ StrsAt W' kg keysL ∧ (W'.cell? ⟨wq.heap.size, 2, none⟩ = some (.string sub) ∧ Below w3.heap.size w3 W')) fun e W' ⟨kg, h1, h2, h3, h4⟩ =>
            ⟨kg, h1, h3, cell_below7 h4 h.1 (by show wq.heap.size < W.heap.size; have := h.2.size; omega), h.2.trans (below_le' h4 h.2.size)⟩)
          have K2 := Lib.hid (fun W (kg : Nat) (h : StrsAt W kg keysL) => (Tryz.slices_Contains_string kg 0 19 19 keysL sub W (by decide) (by decide) (by exact h)).mono (R' := fun e W' => e = .returned (.bool true) ∧ W = W') fun e W' h' => ⟨by rw [h'.1, contains_keys, HK.out], h'.2.symm⟩)
          have K0 : w3.drew.cell? ⟨wq.heap.size, 2, none⟩ = some (.string sub) ∧ Below w3.heap.size w3 w3.drew := ⟨hk2, (Below.refl _ _).drew⟩
          have HT3 := Lib.hid ht3
          have HB3 := Lib.hid hb3
          clear hw3 ht3 hb3
          go_region_held3 (fun W => W.cell? ⟨wq.heap.size, 2, none⟩ = some (.string sub) ∧ Below w3.heap.size w3 W)
            (first | assumption | exact K0 | exact ⟨by assumption, by assumption⟩)
            (first
              | (go_at_call 71; refine (K1.out _ ?_).mono ?_; assumption; rintro e w5 ⟨kg, rfl, hst, hss⟩)
              | (go_at_call 70; refine (K2.out _ kg hst).mono ?_; rintro e w6 ⟨rfl, rfl⟩))
          clear K1 K2 K0 hk2
          obtain ⟨hs2, hs3⟩ := hss
          have t5 := HT3.out.below hs3 hz3
          have d0 := t5.c0; have d1 := t5.c1; have d2 := t5.c2; have d3 := t5.c3; have d4 := t5.c4; have d5 := t5.c5; have d6 := t5.c6; have f0 := t5.fr 0
          have hb5 := HB3.out.trans (below_le' hs3 HB3.out.size)
          have HB5 := Lib.hid hb5
          clear hs2 hs3 hst hb5 t5
          go_wp2_with fail
          refine (put_c R s i line l _ ?_ n hn1 hn2 hs ⟨2, 0, sub, 0, 0, ⟨#[]⟩⟩ 0 none 0).mono ?_
          · exact HH.out.below_self (HB5.out.setCell HQ.out.size _)
          rintro e w7 ⟨rfl, hb7, hst7⟩
          clear d0 d1 d2 d3 d4 d5 d6 f0
          go_wp2_with fail
          go_ret
          exact LxRes.mkWord HB2.out (Below.trans ((below_le' HB5.out (Nat.le_of_lt hlt)).setCell (Nat.le_trans (Nat.le_of_lt hlt) HQ.out.size) _) hb7) hst7
      | false =>
        have HK := Lib.hid hk
        have HB2 := Lib.hid (show r = .word n ⟨1, line, sub, 0, 0, ⟨#[]⟩⟩ by rw [HB.out, hk]; rfl)
        clear HB
        by_cases hin : i + n < s.size
        · have hg : gtB (pk s (i + n)) = false := by
            cases hq : gtB (pk s (i + n)) with
            | false => rfl
            | true => exact absurd ⟨hin, hq⟩ hbad
          have GC := Lib.hid (fun W => by have := great_c (pk s (i + n)) W; rw [hg, pk_in s (i + n) hin] at this; exact this)
          have hdx : decide ((i : Int) + (n : Int) < (s.size : Int)) = true := by simp; omega
          have hdy : (i : Int) + (n : Int) < (s.size : Int) := by omega
          clear hg
          clear HR hbad h32 hk hsub
          go_enter Tryz.func48, Tryz.ntmps48
          go_wp2_with fail
          refine RC.out.mono ?_
          rintro e w1 ⟨rfl, n1, rfl⟩
          go_wp2_with fail
          go_quiet ((go_at_call 51; exact quiet_add_left (GC.out _)))
          go_wp2_with fail
          generalize hwq : World.drewN _ _ = wq
          have q0 : wq.cell? ⟨R, 0, none⟩ = some (.string s) := by rw [← hwq]; exact hc0
          have q1 : wq.cell? ⟨R, 1, none⟩ = some (.int .i64 i) := by rw [← hwq]; exact hc1
          have hqb : Below w.heap.size w wq := by rw [← hwq]; exact ⟨rfl, rfl, rfl, Nat.le_refl _, fun _ _ => rfl⟩
          have HQ := Lib.hid hqb
          clear hwq hqb
          go_region_held3 (fun W => W.cell? ⟨R, 0, none⟩ = some (.string s) ∧ W.cell? ⟨R, 1, none⟩ = some (.int .i64 i)) (first | assumption | exact ⟨hc0, hc1⟩ | go_keep) (fail)
          go_wp2_with fail
          rw [← HS.out]
          generalize hw3 : World.drew _ = w3
          have ht3 : TkB w3 wq.heap.size (.int .i64 1) (.int .i64 0) (.string sub) (.int .i64 0) (.int .i64 0) (.string ⟨#[]⟩) (.slice none 0 0) := by rw [← hw3]; exact TkB.new wq _ _ _ _ _ _ _
          have hb3 : Below w.heap.size w w3 := by rw [← hw3]; exact (HQ.out.alloc HQ.out.size _).drew
          have hz3 : wq.heap.size < w3.heap.size := by rw [← hw3]; show wq.heap.size < (wq.alloc _).heap.size; simp
          have hk2 := ht3.c2
          have K1 := Lib.hid (fun W (h : W.cell? ⟨wq.heap.size, 2, none⟩ = some (.string sub) ∧ Below w3.heap.size w3 W) => (keys_c W (HE.out.below (hb3.trans (below_le' h.2 hb3.size)) (by omega)).spc).mono (R' := fun e W' => ∃ kg, e = .returned (.slice (some ⟨kg, 0, none⟩) 19 19) ∧ StrsAt W' kg keysL ∧ (W'.cell? ⟨wq.heap.size, 2, none⟩ = some (.string sub) ∧ Below w3.heap.size w3 W')) fun e W' ⟨kg, h1, h2, h3, h4⟩ =>
            ⟨kg, h1, h3, cell_below7 h4 h.1 (by show wq.heap.size < W.heap.size; have := h.2.size; omega), h.2.trans (below_le' h4 h.2.size)⟩)
          have K2 := Lib.hid (fun W (kg : Nat) (h : StrsAt W kg keysL) => (Tryz.slices_Contains_string kg 0 19 19 keysL sub W (by decide) (by decide) (by exact h)).mono (R' := fun e W' => e = .returned (.bool false) ∧ W = W') fun e W' h' => ⟨by rw [h'.1, contains_keys, HK.out], h'.2.symm⟩)
          have K0 : w3.drew.cell? ⟨wq.heap.size, 2, none⟩ = some (.string sub) ∧ Below w3.heap.size w3 w3.drew := ⟨hk2, (Below.refl _ _).drew⟩
          have HT3 := Lib.hid ht3
          have HB3 := Lib.hid hb3
          clear hw3 ht3 hb3
          go_region_held3 (fun W => W.cell? ⟨wq.heap.size, 2, none⟩ = some (.string sub) ∧ Below w3.heap.size w3 W)
            (first | assumption | exact K0 | exact ⟨by assumption, by assumption⟩)
            (first
              | (go_at_call 71; refine (K1.out _ ?_).mono ?_; assumption; rintro e w5 ⟨kg, rfl, hst, hss⟩)
              | (go_at_call 70; refine (K2.out _ kg hst).mono ?_; rintro e w6 ⟨rfl, rfl⟩))
          clear K1 K2 K0 hk2
          obtain ⟨hs2, hs3⟩ := hss
          have t5 := HT3.out.below hs3 hz3
          have d0 := t5.c0; have d1 := t5.c1; have d2 := t5.c2; have d3 := t5.c3; have d4 := t5.c4; have d5 := t5.c5; have d6 := t5.c6; have f0 := t5.fr 0
          have hb5 := HB3.out.trans (below_le' hs3 HB3.out.size)
          have HB5 := Lib.hid hb5
          clear hs2 hs3 hst hb5 t5
          go_wp2_with fail
          refine (put_c R s i line l _ ?_ n hn1 hn2 hs ⟨1, 0, sub, 0, 0, ⟨#[]⟩⟩ 0 none 0).mono ?_
          · exact HH.out.below_self HB5.out
          rintro e w7 ⟨rfl, hb7, hst7⟩
          clear d0 d1 d2 d3 d4 d5 d6 f0
          go_wp2_with fail
          go_ret
          exact LxRes.mkWord HB2.out (Below.trans (below_le' HB5.out (Nat.le_of_lt hlt)) hb7) hst7
        · have hdx : decide ((i : Int) + (n : Int) < (s.size : Int)) = false := by simp; omega
          clear HR hbad h32 hk hsub
          go_enter Tryz.func48, Tryz.ntmps48
          go_wp2_with fail
          refine RC.out.mono ?_
          rintro e w1 ⟨rfl, n1, rfl⟩
          go_wp2_with fail
          go_quiet (fail)
          go_wp2_with fail
          generalize hwq : World.drewN _ _ = wq
          have q0 : wq.cell? ⟨R, 0, none⟩ = some (.string s) := by rw [← hwq]; exact hc0
          have q1 : wq.cell? ⟨R, 1, none⟩ = some (.int .i64 i) := by rw [← hwq]; exact hc1
          have hqb : Below w.heap.size w wq := by rw [← hwq]; exact ⟨rfl, rfl, rfl, Nat.le_refl _, fun _ _ => rfl⟩
          have HQ := Lib.hid hqb
          clear hwq hqb
          go_region_held3 (fun W => W.cell? ⟨R, 0, none⟩ = some (.string s) ∧ W.cell? ⟨R, 1, none⟩ = some (.int .i64 i)) (first | assumption | exact ⟨hc0, hc1⟩ | go_keep) (fail)
          go_wp2_with fail
          rw [← HS.out]
          generalize hw3 : World.drew _ = w3
          have ht3 : TkB w3 wq.heap.size (.int .i64 1) (.int .i64 0) (.string sub) (.int .i64 0) (.int .i64 0) (.string ⟨#[]⟩) (.slice none 0 0) := by rw [← hw3]; exact TkB.new wq _ _ _ _ _ _ _
          have hb3 : Below w.heap.size w w3 := by rw [← hw3]; exact (HQ.out.alloc HQ.out.size _).drew
          have hz3 : wq.heap.size < w3.heap.size := by rw [← hw3]; show wq.heap.size < (wq.alloc _).heap.size; simp
          have hk2 := ht3.c2
          have K1 := Lib.hid (fun W (h : W.cell? ⟨wq.heap.size, 2, none⟩ = some (.string sub) ∧ Below w3.heap.size w3 W) => (keys_c W (HE.out.below (hb3.trans (below_le' h.2 hb3.size)) (by omega)).spc).mono (R' := fun e W' => ∃ kg, e = .returned (.slice (some ⟨kg, 0, none⟩) 19 19) ∧ StrsAt W' kg keysL ∧ (W'.cell? ⟨wq.heap.size, 2, none⟩ = some (.string sub) ∧ Below w3.heap.size w3 W')) fun e W' ⟨kg, h1, h2, h3, h4⟩ =>
            ⟨kg, h1, h3, cell_below7 h4 h.1 (by show wq.heap.size < W.heap.size; have := h.2.size; omega), h.2.trans (below_le' h4 h.2.size)⟩)
          have K2 := Lib.hid (fun W (kg : Nat) (h : StrsAt W kg keysL) => (Tryz.slices_Contains_string kg 0 19 19 keysL sub W (by decide) (by decide) (by exact h)).mono (R' := fun e W' => e = .returned (.bool false) ∧ W = W') fun e W' h' => ⟨by rw [h'.1, contains_keys, HK.out], h'.2.symm⟩)
          have K0 : w3.drew.cell? ⟨wq.heap.size, 2, none⟩ = some (.string sub) ∧ Below w3.heap.size w3 w3.drew := ⟨hk2, (Below.refl _ _).drew⟩
          have HT3 := Lib.hid ht3
          have HB3 := Lib.hid hb3
          clear hw3 ht3 hb3
          go_region_held3 (fun W => W.cell? ⟨wq.heap.size, 2, none⟩ = some (.string sub) ∧ Below w3.heap.size w3 W)
            (first | assumption | exact K0 | exact ⟨by assumption, by assumption⟩)
            (first
              | (go_at_call 71; refine (K1.out _ ?_).mono ?_; assumption; rintro e w5 ⟨kg, rfl, hst, hss⟩)
              | (go_at_call 70; refine (K2.out _ kg hst).mono ?_; rintro e w6 ⟨rfl, rfl⟩))
          clear K1 K2 K0 hk2
          obtain ⟨hs2, hs3⟩ := hss
          have t5 := HT3.out.below hs3 hz3
          have d0 := t5.c0; have d1 := t5.c1; have d2 := t5.c2; have d3 := t5.c3; have d4 := t5.c4; have d5 := t5.c5; have d6 := t5.c6; have f0 := t5.fr 0
          have hb5 := HB3.out.trans (below_le' hs3 HB3.out.size)
          have HB5 := Lib.hid hb5
          clear hs2 hs3 hst hb5 t5
          go_wp2_with fail
          refine (put_c R s i line l _ ?_ n hn1 hn2 hs ⟨1, 0, sub, 0, 0, ⟨#[]⟩⟩ 0 none 0).mono ?_
          · exact HH.out.below_self HB5.out
          rintro e w7 ⟨rfl, hb7, hst7⟩
          clear d0 d1 d2 d3 d4 d5 d6 f0
          go_wp2_with fail
          go_ret
          exact LxRes.mkWord HB2.out (Below.trans (below_le' HB5.out (Nat.le_of_lt hlt)) hb7) hst7
end Go.Proofs.YtjibjgokloondaaGreatDoor
namespace Go.Proofs.YtjibjgokloondaaGreatDoor
open Go.RowKit Go.Lib
set_option linter.unusedVariables false

end Go.Proofs.YtjibjgokloondaaGreatDoor
namespace Go.Proofs.YtjibjgokloondaaGreatDoor
open Go.RowKit Go.Lib
set_option linter.unusedVariables false

end Go.Proofs.YtjibjgokloondaaGreatDoor
namespace Go.Proofs.YtjibjgokloondaaGreatDoor
open Go.RowKit Go.Lib
set_option linter.unusedVariables false

theorem own_below {W W' : World} {base e size n : Nat} {v : Value} {xs : List Value} (h : W.ownsRow base e size v n xs) (hb : Below W.heap.size W W') : W'.ownsRow base e size v n xs := by
  refine ⟨h.1, ?_⟩
  rcases h.2 with h0 | ⟨g, cap, cur, hv, hb1, hh, r⟩
  · exact .inl h0
  · have hlt : g < W.heap.size := by
      rcases Nat.lt_or_ge g W.heap.size with hlt | hge
      · exact hlt
      · rw [Array.getElem?_eq_none hge] at hh; cases hh
    exact .inr ⟨g, cap, cur, hv, hb1, (hb.block g hlt).trans hh, r⟩
end Go.Proofs.YtjibjgokloondaaGreatDoor
namespace Go.Proofs.YtjibjgokloondaaGreatDoor
open Go.RowKit Go.Lib
set_option linter.unusedVariables false

theorem grown_below {B : Nat} {w w1 w2 : World} {row : Option Nat} (h : Below B w w1) (hz : B ≤ w1.heap.size) (hg : w1.grownBy w2 row) (hr : ∀ k, row = some k → B ≤ k) : Below B w w2 :=
  ⟨hg.os.trans h.os, hg.tape.trans h.tape, hg.output.trans h.output, Nat.le_trans h.size hg.size,
   fun k hk => (hg.block k (by omega) (fun e => by have := hr k e.symm; omega)).trans (h.block k hk)⟩
end Go.Proofs.YtjibjgokloondaaGreatDoor
namespace Go.Proofs.YtjibjgokloondaaGreatDoor
open Go.RowKit Go.Lib
set_option linter.unusedVariables false

end Go.Proofs.YtjibjgokloondaaGreatDoor
namespace Go.Proofs.YtjibjgokloondaaGreatDoor
open Go.RowKit Go.Lib
set_option linter.unusedVariables false

end Go.Proofs.YtjibjgokloondaaGreatDoor
namespace Go.Proofs.YtjibjgokloondaaGreatDoor
open Go.RowKit Go.Lib
set_option linter.unusedVariables false

end Go.Proofs.YtjibjgokloondaaGreatDoor
