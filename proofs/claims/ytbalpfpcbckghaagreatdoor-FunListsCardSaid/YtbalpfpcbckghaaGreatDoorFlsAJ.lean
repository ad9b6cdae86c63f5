/- Contracts of the functions that the statement reaches, and the plain mathematics beneath: several texts joined. -/
import Derived.Deep.RegionLaw
import Derived.Deep.AppendLies
import Derived.Shelf.GgClosure.Gives
import Derived.Sort.Grow
import Derived.Sort.Row
import Derived.Maps.AppendAt
import Derived.Deep.RegionHeld3
import Derived.StillTailTactics
import Derived.IntWalk
import Derived.Test.YtbalpfpcbckghaaGreatDoorFlsAF
import Derived.Test.YtbalpfpcbckghaaGreatDoorFlsAD
import Derived.Test.YtbalpfpcbckghaaGreatDoorFlsAA
import Derived.Test.YtbalpfpcbckghaaGreatDoorShelf
import Derived.Test.YtbalpfpcbckghaaGreatDoorFlsAC
import Derived.Test.YtbalpfpcbckghaaGreatDoorFlsAG
import Derived.Test.YtbalpfpcbckghaaGreatDoorFlsAE
namespace Go.Proofs.YtbalpfpcbckghaaGreatDoor
open Go.RowKit Go.Lib Go.Sort Go.Shelf
set_option linter.unusedVariables false
set_option linter.unusedSimpArgs false
section
variable {P : Program} {α : Type} [Inhabited α] {enc : α → List Value} {k : Nat} {w0 w : World} {blk off : Nat} {d0 d : Array α}
set_option maxRecDepth 1000000 in
set_option maxHeartbeats 8000000 in
theorem merge2_g {cap a m b : Nat} {g : Nat} {cb : Array Value} {cf : α → α → Int} (L : LayV P k) (FG : P.funcs[232]? = some Tryz.f232) (eg : ∀ args w, (callFunc g args).run P w = .ok (.enter g args) w) (hcmp : CmpLays P g cb enc k cf blk off d0.size w0)
    (R : RowK enc k w0 blk off d0) (hs : d.size = d0.size) (S : SWK enc k w0 blk off d w) (ha : a < m) (hm : m < b) (hb : b ≤ d.size) (hsz : d.size < 4611686018427387904) (h1 : ¬ m - a = 1) (h2 : b - m = 1) :
    Calls P 232 #[.slice (some ⟨blk, off, none⟩) d.size cap, .int .i64 a, .int .i64 m, .int .i64 b, .func (.func g) #[] cb] w fun e w' => e = .returned (.tuple #[]) ∧ SWK enc k w0 blk off (shD m (m - bsr (fun h => !ltOf cf d[m]! d[h]!) (m - a) a m) d) w' := by
  have mixed := L.mixed; have t0 := L.t0; have a0 := L.a0; have z0 := L.z0; have v0 := L.v0; have t3 := L.t3; have a3 := L.a3; have z3 := L.z3; have v3 := L.v3; have t4 := L.t4; have a4 := L.a4; have z4 := L.z4; have v4 := L.v4; have t22 := L.t22; have a22 := L.a22; have z22 := L.z22; have v22 := L.v22; have t90 := L.t90; have a90 := L.a90; have z90 := L.z90; have v90 := L.v90; have t131 := L.t131; have a131 := L.a131; have z131 := L.z131; have v131 := L.v131; have aE := L.aE; have zE := L.zE
  have HC : Aside _ := hcmp
  have S0 : Aside (SWK enc k w0 blk off d w) := S
  have hs1 := hs.symm
  clear S L hcmp hs
  have hmz : ¬ (m : Int) - (a : Int) = 1 := by omega
  have hmq : ((m : Int) - (a : Int) == 1) = false := by simp; omega
  have hbz : (b : Int) - (m : Int) = 1 := by omega
  go_enter FG, Tryz.ntmps232
  go_wp2
  go_loopg [14, 15] (m - a) (fun kx s8 s9 wr => ∃ (s r : Nat), s8 = .int .i64 s ∧ s9 = .int .i64 r ∧ a ≤ s ∧ s ≤ r ∧ r ≤ m ∧ r - s ≤ kx ∧ Aside (SWK enc k w0 blk off d wr) ∧ Hid (bsr (fun h => !ltOf cf d[m]! d[h]!) kx s r = bsr (fun h => !ltOf cf d[m]! d[h]!) (m - a) (a) (m)))
  case atStart => exact ⟨a, m, by first | rfl | go_num | (congr 1; omega), by first | rfl | go_num | (congr 1; omega), by omega, by omega, by omega, by omega, S0, rfl⟩
  case round =>
    clear S0
    obtain ⟨s, r, rfl, rfl, hlo, hsr, hrb, hkx, S1, HE⟩ := hrel
    by_cases hlt : s < r
    · obtain ⟨f, rfl⟩ : ∃ f, gk = f + 1 := ⟨gk - 1, by omega⟩
      have hsz1 : s + r < 2 * d.size := by omega
      cases hL : ltOf cf d[m]! d[(s + r) / 2]! with
      | true =>
        have ea5a : ((m : Int)).toNat = m := by omega
        have pa5a : (0 : Int) ≤ (m : Int) := by omega
        have ba5a : (m : Int) < (d.size : Int) := by omega
        have ra5a : IntKind.i64.wrap ((m : Int)) = (m : Int) := by rw [IntKind.wrap_i64]; omega
        have ea5b : (((s : Int) + (r : Int)) / 2).toNat = (s + r) / 2 := by omega
        have pa5b : (0 : Int) ≤ ((s : Int) + (r : Int)) / 2 := by omega
        have ba5b : ((s : Int) + (r : Int)) / 2 < (d.size : Int) := by omega
        have ra5b : IntKind.i64.wrap (((s : Int) + (r : Int)) / 2) = ((s : Int) + (r : Int)) / 2 := by rw [IntKind.wrap_i64]; omega
        obtain ⟨x5, hx5⟩ : ∃ x, x = d[m]! := ⟨_, rfl⟩
        obtain ⟨y5, hy5⟩ : ∃ x, x = d[(s + r) / 2]! := ⟨_, rfl⟩
        have l5a := S1.out.ld R (by omega) P (m) (by omega)
        have l5b := S1.out.ld R (by omega) P ((s + r) / 2) (by omega)
        rw [← hx5] at l5a
        rw [← hy5] at l5b
        have hc5 := S1.out.cmp HC.out (by omega) x5 y5
        have hv5 : cf x5 y5 < 0 := by rw [hx5, hy5]; exact of_decide_eq_true hL
        have hd5 : decide (cf x5 y5 < 0) = true := decide_eq_true hv5
        clear hx5 hy5
        go_wp2_with fail
        go_quiet_grown (first | (go_at_fn g; refine Calls.grown_of (hc5 _ _)))
        have S5 : Aside (SWK enc k w0 blk off d (grow (wr.drewN nq) osq)) := S1.out.grown nq osq
        clear l5a l5b hc5 S1
        generalize grow (wr.drewN nq) osq = w5 at S5 ⊢
        clear nq osq
        go_wp2_with fail
        go_roundg f
        case measure => omega
        case rel => exact ⟨s, (s + r) / 2, rfl, by rw [show ((s : Int) + (r : Int)) / 2 = (((s + r) / 2 : Nat) : Int) by omega], by omega, by omega, by omega, by omega, S5, by show _ = _; rw [← HE.out, bsr, if_pos hlt, if_neg (by simp [hL])]⟩
      | false =>
        have ea5a : ((m : Int)).toNat = m := by omega
        have pa5a : (0 : Int) ≤ (m : Int) := by omega
        have ba5a : (m : Int) < (d.size : Int) := by omega
        have ra5a : IntKind.i64.wrap ((m : Int)) = (m : Int) := by rw [IntKind.wrap_i64]; omega
        have ea5b : (((s : Int) + (r : Int)) / 2).toNat = (s + r) / 2 := by omega
        have pa5b : (0 : Int) ≤ ((s : Int) + (r : Int)) / 2 := by omega
        have ba5b : ((s : Int) + (r : Int)) / 2 < (d.size : Int) := by omega
        have ra5b : IntKind.i64.wrap (((s : Int) + (r : Int)) / 2) = ((s : Int) + (r : Int)) / 2 := by rw [IntKind.wrap_i64]; omega
        obtain ⟨x5, hx5⟩ : ∃ x, x = d[m]! := ⟨_, rfl⟩
        obtain ⟨y5, hy5⟩ : ∃ x, x = d[(s + r) / 2]! := ⟨_, rfl⟩
        have l5a := S1.out.ld R (by omega) P (m) (by omega)
        have l5b := S1.out.ld R (by omega) P ((s + r) / 2) (by omega)
        rw [← hx5] at l5a
        rw [← hy5] at l5b
        have hc5 := S1.out.cmp HC.out (by omega) x5 y5
        have hv5 : ¬ cf x5 y5 < 0 := by rw [hx5, hy5]; exact of_decide_eq_false hL
        have hd5 : decide (cf x5 y5 < 0) = false := decide_eq_false hv5
        clear hx5 hy5
        go_wp2_with fail
        go_quiet_grown (first | (go_at_fn g; refine Calls.grown_of (hc5 _ _)))
        have S5 : Aside (SWK enc k w0 blk off d (grow (wr.drewN nq) osq)) := S1.out.grown nq osq
        clear l5a l5b hc5 S1
        generalize grow (wr.drewN nq) osq = w5 at S5 ⊢
        clear nq osq
        go_wp2_with fail
        go_roundg f
        case measure => omega
        case rel => exact ⟨(s + r) / 2 + 1, r, by rw [show ((s : Int) + (r : Int)) / 2 + 1 = (((s + r) / 2 + 1 : Nat) : Int) by omega], rfl, by omega, by omega, by omega, by omega, S5, by show _ = _; rw [← HE.out, bsr, if_pos hlt, if_pos (by simp [hL])]⟩
    · have hrs : r = s := by omega
      subst hrs
      have HB : Hid (r = bsr (fun h => !ltOf cf d[m]! d[h]!) (m - a) a m) := (by show _ = _; rw [← HE.out]; cases gk with | zero => rfl | succ f => rw [bsr, if_neg (Nat.lt_irrefl _)])
      clear HE
      go_wp2_with fail
      go_loopg [17] (m - r) (fun kk v wq => ∃ i : Nat, v = .int .i64 ((m : Int) - i) ∧ i + kk = m - r ∧ Aside (SWK enc k w0 blk off (shD m i d) wq))
      case atStart => exact ⟨0, by first | go_num | (congr 1; omega), by omega, S1⟩
      case round =>
        clear S1
        obtain ⟨i, rfl, hik, S1⟩ := hrel
        have hz := shD_size m i d
        by_cases hi : i < m - r
        · obtain ⟨f, rfl⟩ : ∃ f, gk = f + 1 := ⟨gk - 1, by omega⟩
          have hlt : (r : Int) < (m : Int) - (i : Int) := by omega
          have rw1 : IntKind.i64.wrap ((m : Int) - (i : Int) - 1) = (m : Int) - (i : Int) - 1 := by rw [IntKind.wrap_i64]; omega
          have ea7a : ((m : Int) - (i : Int)).toNat = m - i := by omega
          have pa7a : (0 : Int) ≤ (m : Int) - (i : Int) := by omega
          have ba7a : (m : Int) - (i : Int) < (d.size : Int) := by omega
          have ra7a : IntKind.i64.wrap ((m : Int) - (i : Int)) = (m : Int) - (i : Int) := by rw [IntKind.wrap_i64]; omega
          have ea7b : ((m : Int) - (i : Int) - 1).toNat = m - i - 1 := by omega
          have pa7b : (0 : Int) ≤ (m : Int) - (i : Int) - 1 := by omega
          have ba7b : (m : Int) - (i : Int) - 1 < (d.size : Int) := by omega
          have ra7b : IntKind.i64.wrap ((m : Int) - (i : Int) - 1) = (m : Int) - (i : Int) - 1 := by rw [IntKind.wrap_i64]; omega
          have S7 : Aside (SWK enc k w0 blk off (shD m (i + 1) d) ((wr.drew.setCells blk (off + (m - i) * k) (enc (shD m i d)[m - i - 1]!)).setCells blk (off + (m - i - 1) * k) (enc (shD m i d)[m - i]!))) := S1.out.swapped R (m - i) (m - i - 1) (by omega) (by omega)
          have l7a := S1.out.ld1 R (by omega) P (m - i) (by omega)
          have l7b := S1.out.ld1 R (by omega) P (m - i - 1) (by omega)
          have s7a := S1.out.st1 R (by omega) P (m - i) (by omega) (shD m i d)[m - i - 1]!
          have s7b := S1.out.st2 R (by omega) P (m - i) (m - i - 1) (by omega) (by omega) (shD m i d)[m - i - 1]! (shD m i d)[m - i]!
          have n7a : (enc (shD m i d)[m - i]!).length = k := R.hk _
          have n7b : (enc (shD m i d)[m - i - 1]!).length = k := R.hk _
          generalize enc (shD m i d)[m - i]! = cI7 at S7 l7a s7b n7a
          generalize enc (shD m i d)[m - i - 1]! = cJ7 at S7 l7b s7a s7b n7b
          clear S1
          go_wp2_with fail
          go_big_region_o
          clear l7a l7b s7a s7b
          generalize (wr.drew.setCells blk (off + (m - i) * k) cJ7).setCells blk (off + (m - i - 1) * k) cI7 = w7 at S7 ⊢
          go_wp2_with fail
          go_roundg f
          case measure => omega
          case rel => exact ⟨i + 1, by first | go_num | (congr 1; omega), by omega, S7⟩
        · have hlt : ¬ (r : Int) < (m : Int) - (i : Int) := by omega
          obtain rfl : i = m - r := by omega
          go_wp2_with fail
          refine bodyPost_ret (results_none rfl _ _ _) rfl ?_
          exact ⟨rfl, by rw [← HB.out]; exact S1.out⟩
end
end Go.Proofs.YtbalpfpcbckghaaGreatDoor
namespace Go.Proofs.YtbalpfpcbckghaaGreatDoor
open Go.RowKit Go.Lib
set_option linter.unusedVariables false

end Go.Proofs.YtbalpfpcbckghaaGreatDoor
namespace Go.Proofs.YtbalpfpcbckghaaGreatDoor
open Go.RowKit Go.Lib
set_option linter.unusedVariables false

/-- How many bytes from a place on are of a sort; with fuel. -/
def runN (s : ByteArray) (p : UInt8 → Bool) : Nat → Nat → Nat
  | 0, _ => 0
  | f + 1, i => if i < s.size ∧ p (pk s i) = true then runN s p f (i + 1) + 1 else 0
def run (s : ByteArray) (p : UInt8 → Bool) (i : Nat) : Nat := runN s p (s.size + 1) i
/-- What one word is: an error, or a word of so many bytes. -/
inductive WR where
  | bad (c : Nat)
  | word (n : Nat) (t : Tok)

end Go.Proofs.YtbalpfpcbckghaaGreatDoor
namespace Go.Proofs.YtbalpfpcbckghaaGreatDoor
open Go.RowKit Go.Lib
set_option linter.unusedVariables false

section
variable {w w' : World} {R : Nat} {s : ByteArray} {i : Nat} {line : Int} {v : Value}
end

end Go.Proofs.YtbalpfpcbckghaaGreatDoor
namespace Go.Proofs.YtbalpfpcbckghaaGreatDoor
open Go.RowKit Go.Lib
set_option linter.unusedVariables false

end Go.Proofs.YtbalpfpcbckghaaGreatDoor
namespace Go.Proofs.YtbalpfpcbckghaaGreatDoor
open Go.RowKit Go.Lib Go.Sort
set_option linter.unusedVariables false

/-- Texts that lie in a row. -/
def StrsAt (w : World) (g : Nat) (l : List ByteArray) : Prop := ∀ j, j < l.length → w.cell? ⟨g, 0 + j, none⟩ = some (.string (l.getD j ByteArray.empty))
theorem StrsAt.below {w w' : World} {g : Nat} {l : List ByteArray} {B : Nat} (h : StrsAt w g l) (hb : Below B w w') (hg : g < B) : StrsAt w' g l := fun j hj => (hb.cell (p := ⟨g, 0 + j, none⟩) hg).trans (h j hj)

theorem ascii_all {l : List UInt8} (h : l.all (fun b => decide (b.toNat < 128)) = true) : ∀ (j : Nat) b, l[j]? = some b → b.toNat < 128 := fun j b hb =>
  of_decide_eq_true (List.all_eq_true.1 h b (List.mem_of_getElem? hb))
abbrev SpaceAt (w : World) : Prop := Lib.TabIs Tryz.prog w "strings.asciiSpace" .u8 Lib.asciiSpaceTab

end Go.Proofs.YtbalpfpcbckghaaGreatDoor
namespace Go.Proofs.YtbalpfpcbckghaaGreatDoor
open Go.RowKit Go.Lib
set_option linter.unusedVariables false

theorem tab_keep {P : Program} {w w' : World} {n : String} {g : Nat} {k : IntKind} {zs : List Int} (hg : P.globalNamed n = some g) (h : TabIs P w n k zs) (e : w'.heap[g]? = w.heap[g]?) : TabIs P w' n k zs := by
  unfold TabIs World.var? at *
  rw [hg] at h ⊢
  simp only [Option.bind_some] at h ⊢
  rw [e]; exact h
/-- What lex asks of the variables. -/
structure LxEnv (w : World) (ea : Nat → Addr) : Prop where
  err : ErrsAt w ea
  spc : SpaceAt w
  str : StrcAt w
theorem LxEnv.below {w w' : World} {ea : Nat → Addr} {B : Nat} (h : LxEnv w ea) (hb : Below B w w') (hB : 14 ≤ B) : LxEnv w' ea := by
  have hk : ∀ p : Addr, p.block < 14 → w'.cell? p = w.cell? p := fun p hp => World.cell?_of_block (w := w) (hb.block p.block (by omega))
  obtain ⟨t1, p1, h1⟩ := h.str.syn
  obtain ⟨t2, p2, h2⟩ := h.str.rng
  refine ⟨h.err.below hb hB, tab_keep (g := 1) rfl h.spc (hb.block _ (Nat.lt_of_lt_of_le (by decide) hB)), ⟨⟨t1, p1, (hk ⟨10, 0, none⟩ (by decide)).trans h1⟩, ⟨t2, p2, (hk ⟨11, 0, none⟩ (by decide)).trans h2⟩, tab_keep (g := 7) rfl h.str.tab (hb.block _ (Nat.lt_of_lt_of_le (by decide) hB)), ?_⟩⟩
  have := h.str.room; have := hb.size; omega

theorem below_drewN {B : Nat} {w w' : World} (h : Below B w w') (n : Nat) : Below B w (w'.drewN n) := ⟨h.os, h.tape, h.output, h.size, h.block⟩
section
variable {w w' : World} {g : Nat} {a b c d e f h : Value}
end
end Go.Proofs.YtbalpfpcbckghaaGreatDoor
namespace Go.Proofs.YtbalpfpcbckghaaGreatDoor
open Go.RowKit Go.Lib
set_option linter.unusedVariables false

/-- What fun's functions lean on in memory. -/
structure FnEnv (w : World) : Prop where
  spc : SpaceAt w
  mx : MaxAt w
  room : 14 < w.heap.size
theorem FnEnv.below {w w' : World} {B : Nat} (h : FnEnv w) (hb : Below B w w') (hB : 14 ≤ B) : FnEnv w' :=
  ⟨tab_keep (g := 1) rfl h.spc (hb.block _ (Nat.lt_of_lt_of_le (by decide) hB)), h.mx.below hb hB, by have := h.room; have := hb.size; omega⟩
/-- A row of functions, as text and as data. -/
structure RowOk (T : List UInt8) (E : List (List UInt8 × List UInt8)) : Prop where
  fl : Lib.fields T = E.map joinE
  asc : T.all (fun b => decide (b.toNat < 128)) = true
  len : T.length < 100000
  ct : ∀ e ∈ E, Lib.cut (joinE e) [58] = (e.1, e.2, true)
  els : ∀ e ∈ E, (joinE e).length < 1000
  en : E.length < 1000
theorem pures_ok : RowOk puresT pureE := ⟨pures_fields, by decide +kernel, by decide +kernel, List.map_inj_left.1 pures_cut, by decide +kernel, by decide +kernel⟩
theorem others_ok : RowOk othersT otherE := ⟨others_fields, by decide +kernel, by decide +kernel, List.map_inj_left.1 others_cut, by decide +kernel, by decide +kernel⟩
theorem ba_size (l : List UInt8) : (⟨l.toArray⟩ : ByteArray).size = l.length := by show l.toArray.size = _; simp
theorem name_eqL {l : List UInt8} {s : ByteArray} (h : l = s.data.toList) : (l == s.toList) = true := by rw [Lib.toList_data, h, beq_iff_eq]
theorem name_neL {l : List UInt8} {s : ByteArray} (h : ¬ l = s.data.toList) : (l == s.toList) = false := by rw [Lib.toList_data, beq_eq_false_iff_ne]; exact h
theorem findP_cons (e : List UInt8 × List UInt8) (r : List (List UInt8 × List UInt8)) (nm : List UInt8) : findP (e :: r) nm = if e.1 = nm then (e.2, true) else findP r nm := rfl
/-- A row of texts, just made. -/
theorem rowE_cell (w : World) (E : List (List UInt8 × List UInt8)) (i : Nat) (e : List UInt8 × List UInt8) (h : E[i]? = some e) :
    (w.alloc (.cells ((E.map joinE).map fun l => Value.string ⟨l.toArray⟩).toArray 9)).cell? ⟨w.heap.size, i, none⟩ = some (.string ⟨(joinE e).toArray⟩) := by
  rw [cell_of_row _ _ i _ _ _ (heap_alloc_new w _)]
  simp [h]

set_option maxRecDepth 100000 in
set_option maxHeartbeats 2000000 in
theorem find_c {T : List UInt8} {E : List (List UInt8 × List UInt8)} (hr : RowOk T E) (name : ByteArray) (w : World) (he : FnEnv w) :
    Calls Tryz.prog 47 #[.string ⟨T.toArray⟩, .string name] w fun e w' => e = .returned (.tuple #[.string ⟨(findP E name.data.toList).1.toArray⟩, .bool (findP E name.data.toList).2]) ∧ Below w.heap.size w w' := by
  have hroom := he.room
  have FK : Hid (Calls Tryz.prog 37 #[.string ⟨T.toArray⟩] w fun e w' => e = .returned (.slice (some ⟨w.heap.size, 0, none⟩) E.length E.length) ∧ w.alloc (.cells ((E.map joinE).map fun l => Value.string ⟨l.toArray⟩).toArray 9) = w') := Lib.hid (by
    refine (Tryz.strings_Fields_laid ⟨T.toArray⟩ w (by rw [ba_size]; have := hr.len; omega) (ascii_all (l := T) hr.asc) he.spc).mono ?_
    rintro e w' ⟨rfl, rfl⟩
    rw [show (⟨T.toArray⟩ : ByteArray).data.toList = T from by simp, hr.fl, List.length_map]
    exact ⟨rfl, rfl⟩)
  obtain ⟨w1, hw1⟩ : ∃ w1, w1 = w.alloc (.cells ((E.map joinE).map fun l => Value.string ⟨l.toArray⟩).toArray 9) := ⟨_, rfl⟩
  have hz : w1.heap.size = w.heap.size + 1 := by rw [hw1]; simp
  have hb : Below w.heap.size w w1 := by rw [hw1]; exact (Below.refl _ _).alloc (Nat.le_refl _) _
  have HC := Lib.hid (show ∀ i e, E[i]? = some e → w1.cell? ⟨w.heap.size, i, none⟩ = some (.string ⟨(joinE e).toArray⟩) by rw [hw1]; exact rowE_cell w E)
  rw [← hw1] at FK
  obtain ⟨res, hres⟩ : ∃ res, res = findP E name.data.toList := ⟨_, rfl⟩
  rw [← hres]
  have HR := Lib.hid hres
  have HRO := Lib.hid hr
  have HB := Lib.hid hb
  have HE := Lib.hid (fun W (hW : Below w.heap.size w W) => he.below hW (by omega))
  have hen := hr.en
  clear hw1 hb hres hr he
  go_enter Tryz.func47, Tryz.ntmps47
  go_wp2_with fail
  refine FK.out.mono ?_
  rintro e w2 ⟨rfl, rfl⟩
  go_wp2_with fail
  go_loopg [14] E.length (fun kk iv wr => ∃ i : Nat, iv = .int .i64 (i : Int) ∧ i + kk = E.length ∧ Hid (Below w1.heap.size w1 wr) ∧ Hid (findP (E.drop i) name.data.toList = res))
  case atStart => exact ⟨0, rfl, by omega, Below.refl _ _, by rw [HR.out]; rfl⟩
  case round =>
    obtain ⟨i, rfl, hk, hbw, hq⟩ := hrel
    by_cases hi : i < E.length
    · obtain ⟨kk, rfl⟩ : ∃ kk, gk = kk + 1 := ⟨gk - 1, by omega⟩
      obtain ⟨e, hE⟩ : ∃ e, E[i]? = some e := ⟨_, List.getElem?_eq_getElem hi⟩
      have hem : e ∈ E := List.mem_of_getElem? hE
      have hcx : wr.cell? ⟨w.heap.size, i, none⟩ = some (.string ⟨(joinE e).toArray⟩) := (hbw.out.cell (p := ⟨w.heap.size, i, none⟩) (by show w.heap.size < _; omega)).trans (HC.out i e hE)
      have hqq := hq.out
      rw [show E.drop i = e :: E.drop (i + 1) from by rw [List.drop_eq_getElem_cons hi]; rw [List.getElem?_eq_getElem hi] at hE; injection hE with hE; rw [hE], findP_cons] at hqq
      have hbW := HB.out.trans (below_le' hbw.out HB.out.size)
      obtain ⟨m, hm⟩ := (HE.out wr hbW).mx
      have CC := Lib.hid (Tryz.strings_Cut ⟨(joinE e).toArray⟩ ⟨#[58]⟩ m wr (by rw [ba_size]; have := HRO.out.els e hem; omega) hm)
      rw [show (⟨(joinE e).toArray⟩ : ByteArray).data.toList = joinE e from by simp, show (⟨#[58]⟩ : ByteArray).data.toList = [58] from rfl, HRO.out.ct e hem] at CC
      have HBW := Lib.hid hbw.out
      by_cases hn : e.1 = name.data.toList
      · have hb1 := name_eqL hn
        rw [if_pos hn] at hqq
        have HQ := Lib.hid hqq
        clear hq hqq hbw hbW hm hn
        go_wp2_with fail
        refine CC.out.mono ?_
        rintro e' w2 ⟨rfl, n, rfl⟩
        go_wp2_with fail
        go_returns
        refine ⟨by rw [← HQ.out]; rfl, ?_⟩
        exact HB.out.trans (below_le' (below_drewN HBW.out _) HB.out.size)
      · have hb1 := name_neL hn
        rw [if_neg hn] at hqq
        have HQ := Lib.hid hqq
        clear hq hqq hbw hbW hm hn
        go_wp2_with fail
        refine CC.out.mono ?_
        rintro e' w2 ⟨rfl, n, rfl⟩
        go_wp2_with fail
        go_roundg kk
        case measure => omega
        case rel => exact ⟨i + 1, by go_num, by omega, Lib.hid (below_drewN HBW.out _), HQ⟩
    · have hiE : i = E.length := by omega
      have hqq := hq.out
      rw [List.drop_eq_nil_of_le (by omega)] at hqq
      have HQ := Lib.hid (show res = ([], false) from hqq.symm)
      have HBW := Lib.hid hbw.out
      clear hq hqq hbw
      go_wp2_with fail
      go_returns
      refine ⟨by rw [HQ.out]; rfl, HB.out.trans (below_le' HBW.out HB.out.size)⟩

set_option maxRecDepth 100000 in
theorem pures_c (w : World) : Calls Tryz.prog 38 #[] w fun e w' => e = .returned (.string ⟨puresT.toArray⟩) ∧ w = w' := by
  go_enter Tryz.func38, Tryz.ntmps38
  go_wp2_with fail
  go_ret
  exact ⟨rfl, rfl⟩
set_option maxRecDepth 100000 in
theorem others_c (w : World) : Calls Tryz.prog 39 #[] w fun e w' => e = .returned (.string ⟨othersT.toArray⟩) ∧ w = w' := by
  go_enter Tryz.func39, Tryz.ntmps39
  go_wp2_with fail
  go_ret
  exact ⟨rfl, rfl⟩

set_option maxHeartbeats 1000000 in
theorem pure_c (name : ByteArray) (w : World) (he : FnEnv w) :
    Calls Tryz.prog 26 #[.string name] w fun e w' => e = .returned (.bool (pureP name.data.toList)) ∧ Below w.heap.size w w' := by
  have FC := Lib.hid (find_c pures_ok name w he)
  have PC := Lib.hid (pures_c w)
  obtain ⟨T, hT⟩ : ∃ T : ByteArray, T = ⟨puresT.toArray⟩ := ⟨_, rfl⟩
  rw [← hT] at FC PC
  obtain ⟨a, ha⟩ : ∃ a : ByteArray, a = ⟨(findP pureE name.data.toList).1.toArray⟩ := ⟨_, rfl⟩
  rw [← ha] at FC
  have e : pureP name.data.toList = (findP pureE name.data.toList).2 := rfl
  rw [e]
  obtain ⟨b, hb⟩ : ∃ b, b = (findP pureE name.data.toList).2 := ⟨_, rfl⟩
  rw [← hb] at FC ⊢
  clear hT ha hb he e
  go_enter Tryz.func26, Tryz.ntmps26
  go_wp2_with fail
  refine PC.out.mono ?_
  rintro e w1 ⟨rfl, rfl⟩
  go_wp2_with fail
  refine FC.out.mono ?_
  rintro e w2 ⟨rfl, hb2⟩
  have HB2 := Lib.hid hb2
  clear hb2
  go_wp2_with fail
  go_ret
  exact ⟨rfl, HB2.out⟩

set_option maxHeartbeats 2000000 in
theorem args_c (name : ByteArray) (w : World) (he : FnEnv w) :
    Calls Tryz.prog 42 #[.string name] w fun e w' => e = .returned (.tuple #[.string ⟨(argsP name.data.toList).1.toArray⟩, .bool (argsP name.data.toList).2]) ∧ Below w.heap.size w w' := by
  have hroom := he.room
  have FC := Lib.hid (find_c pures_ok name w he)
  have GC := Lib.hid (fun W (hW : Below w.heap.size w W) => find_c others_ok name W (he.below hW (by omega)))
  have PC := Lib.hid (pures_c w)
  have OC := Lib.hid others_c
  obtain ⟨T, hT⟩ : ∃ T : ByteArray, T = ⟨puresT.toArray⟩ := ⟨_, rfl⟩
  rw [← hT] at FC PC
  obtain ⟨T2, hT2⟩ : ∃ T : ByteArray, T = ⟨othersT.toArray⟩ := ⟨_, rfl⟩
  rw [← hT2] at GC OC
  have e : argsP name.data.toList = if (findP pureE name.data.toList).2 then findP pureE name.data.toList else findP otherE name.data.toList := rfl
  rw [e]
  obtain ⟨p, hp⟩ : ∃ p, p = findP pureE name.data.toList := ⟨_, rfl⟩
  obtain ⟨q, hq⟩ : ∃ q, q = findP otherE name.data.toList := ⟨_, rfl⟩
  rw [← hp] at FC ⊢
  rw [← hq] at GC ⊢
  clear hT hT2 hp hq he e
  obtain ⟨p1, p2⟩ := p
  obtain ⟨q1, q2⟩ := q
  cases p2 with
  | true =>
    go_enter Tryz.func42, Tryz.ntmps42
    go_wp2_with fail
    refine PC.out.mono ?_
    rintro e w1 ⟨rfl, rfl⟩
    go_wp2_with fail
    refine FC.out.mono ?_
    rintro e w2 ⟨rfl, hb2⟩
    have HB2 := Lib.hid hb2
    clear hb2
    go_wp2_with fail
    go_returns
    exact ⟨rfl, HB2.out⟩
  | false =>
    go_enter Tryz.func42, Tryz.ntmps42
    go_wp2_with fail
    refine PC.out.mono ?_
    rintro e w1 ⟨rfl, rfl⟩
    go_wp2_with fail
    refine FC.out.mono ?_
    rintro e w2 ⟨rfl, hb2⟩
    have HB2 := Lib.hid hb2
    have GC2 := Lib.hid (GC.out w2 hb2)
    clear hb2 GC
    go_wp2_with fail
    refine (OC.out _).mono ?_
    rintro e w3 ⟨rfl, rfl⟩
    go_wp2_with fail
    refine GC2.out.mono ?_
    rintro e w4 ⟨rfl, hb4⟩
    have HB4 := Lib.hid (HB2.out.trans (below_le' hb4 HB2.out.size))
    clear hb4 GC2
    go_wp2_with fail
    go_returns
    exact ⟨rfl, HB4.out⟩
end Go.Proofs.YtbalpfpcbckghaaGreatDoor
namespace Go.Proofs.YtbalpfpcbckghaaGreatDoor

end Go.Proofs.YtbalpfpcbckghaaGreatDoor
namespace Go.Proofs.YtbalpfpcbckghaaGreatDoor
open Go.RowKit Go.Lib
set_option linter.unusedVariables false
theorem beq_no {a b : Int} (h : a ≠ b) : (a == b) = false := beq_eq_false_iff_ne.2 h
end Go.Proofs.YtbalpfpcbckghaaGreatDoor
namespace Go.Proofs.YtbalpfpcbckghaaGreatDoor
open Go.RowKit Go.Lib
set_option linter.unusedVariables false

/-- The letters of a function's arguments, one each. -/
def lettersP (a : List UInt8) : List UInt8 := Lib.replaceAll (Lib.trimSuffix a [43]) [63] []
def arityE (a : List UInt8) : Int × Int :=
  if Lib.hasSuffix (Lib.cut a [63]).1 [43] then (((Lib.trimSuffix (Lib.cut a [63]).1 [43]).length : Int) - 1, -1) else (((Lib.cut a [63]).1.length : Int), ((Lib.cut a [63]).1.length : Int) + ((Lib.cut a [63]).2.1.length : Int))
theorem arityP_eq (nm : List UInt8) : arityP nm = arityE (argsP nm).1 := rfl
theorem toList_mk (l : List UInt8) : (⟨l.toArray⟩ : ByteArray).data.toList = l := by simp
/-- What is known of a function's row of arguments. -/
def rowB (a : List UInt8) : Bool := decide (a.length ≤ 10) && decide ((Lib.cut a [63]).1.length ≤ 10) && decide ((Lib.cut a [63]).2.1.length ≤ 10) && decide ((Lib.trimSuffix (Lib.cut a [63]).1 [43]).length ≤ 10) && decide ((Lib.trimSuffix a [43]).length ≤ 10) && decide ((lettersP a).length ≤ 10) && decide (Lib.countB ⟨(Lib.trimSuffix a [43]).toArray⟩ ⟨#[63]⟩ ≤ 10)
theorem rows_B : ((pureE ++ otherE).all fun e => rowB e.2) = true := by decide +kernel
theorem find_mem : ∀ (E : List (List UInt8 × List UInt8)) (nm : List UInt8), (findP E nm = ([], false) ∧ ∀ e ∈ E, e.1 ≠ nm) ∨ ∃ e ∈ E, e.1 = nm ∧ findP E nm = (e.2, true)
  | [], nm => .inl ⟨rfl, fun e h => by cases h⟩
  | e :: r, nm => by
    rw [findP_cons]
    by_cases h : e.1 = nm
    · rw [if_pos h]; exact .inr ⟨e, List.mem_cons_self .., h, rfl⟩
    · rw [if_neg h]
      rcases find_mem r nm with ⟨h1, h2⟩ | ⟨x, hx, h1, h2⟩
      · refine .inl ⟨h1, fun x hx => ?_⟩
        rcases List.mem_cons.1 hx with rfl | hx
        · exact h
        · exact h2 x hx
      · exact .inr ⟨x, List.mem_cons_of_mem _ hx, h1, h2⟩
theorem args_rowB (nm : List UInt8) : rowB (argsP nm).1 = true := by
  have h := List.all_eq_true.1 rows_B
  have h0 : rowB [] = true := by decide +kernel
  unfold argsP
  rcases find_mem pureE nm with ⟨h1, _⟩ | ⟨x, hx, _, h2⟩
  · rw [h1]
    rcases find_mem otherE nm with ⟨h1, _⟩ | ⟨x, hx, _, h2⟩
    · rw [h1]; exact h0
    · rw [h2]; exact h x (List.mem_append_right _ hx)
  · rw [h2]; exact h x (List.mem_append_left _ hx)

set_option maxRecDepth 100000 in
set_option maxHeartbeats 2000000 in
theorem arity_c (name : ByteArray) (w : World) (he : FnEnv w) :
    Calls Tryz.prog 24 #[.string name] w fun e w' => e = .returned (.tuple #[.int .i64 (arityP name.data.toList).1, .int .i64 (arityP name.data.toList).2]) ∧ Below w.heap.size w w' := by
  have hroom := he.room
  have hrow := args_rowB name.data.toList
  have AC := Lib.hid (args_c name w he)
  have EV := Lib.hid (fun W (hW : Below w.heap.size w W) => he.below hW (by omega))
  rw [arityP_eq]
  obtain ⟨p, hp⟩ : ∃ p, p = argsP name.data.toList := ⟨_, rfl⟩
  rw [← hp] at AC hrow ⊢
  obtain ⟨a, b⟩ := p
  clear hp he
  simp only at AC hrow ⊢
  obtain ⟨c, hc⟩ : ∃ c, c = Lib.cut a [63] := ⟨_, rfl⟩
  have hr := hrow
  simp only [rowB, Bool.and_eq_true, decide_eq_true_eq] at hr
  rw [← hc] at hr
  have CC := Lib.hid (fun (m : Int) W hm => Tryz.strings_Cut ⟨a.toArray⟩ ⟨#[63]⟩ m W (by rw [ba_size]; omega) hm)
  rw [toList_mk, show (⟨#[63]⟩ : ByteArray).data.toList = [63] from rfl, ← hc] at CC
  have e : arityE a = if Lib.hasSuffix c.1 [43] then (((Lib.trimSuffix c.1 [43]).length : Int) - 1, -1) else ((c.1.length : Int), (c.1.length : Int) + (c.2.1.length : Int)) := by rw [hc]; rfl
  rw [e]
  obtain ⟨c1, c2, c3⟩ := c
  simp only at hr ⊢
  have SC := Lib.hid (fun W => Tryz.strings_CutSuffix ⟨c1.toArray⟩ ⟨#[43]⟩ W (by rw [ba_size]; omega))
  rw [toList_mk, show (⟨#[43]⟩ : ByteArray).data.toList = [43] from rfl] at SC
  obtain ⟨u, hu⟩ : ∃ u, u = Lib.trimSuffix c1 [43] := ⟨_, rfl⟩
  rw [← hu] at SC hr ⊢
  have z1 : (⟨c1.toArray⟩ : ByteArray).size = c1.length := ba_size _
  have z2 : (⟨c2.toArray⟩ : ByteArray).size = c2.length := ba_size _
  have z3 : (⟨u.toArray⟩ : ByteArray).size = u.length := ba_size _
  obtain ⟨n1, hn1⟩ : ∃ n, n = c1.length := ⟨_, rfl⟩
  obtain ⟨n2, hn2⟩ : ∃ n, n = c2.length := ⟨_, rfl⟩
  obtain ⟨n3, hn3⟩ : ∃ n, n = u.length := ⟨_, rfl⟩
  obtain ⟨s1, hs1⟩ : ∃ s : ByteArray, s = ⟨c1.toArray⟩ := ⟨_, rfl⟩
  obtain ⟨s2, hs2⟩ : ∃ s : ByteArray, s = ⟨c2.toArray⟩ := ⟨_, rfl⟩
  obtain ⟨s3, hs3⟩ : ∃ s : ByteArray, s = ⟨u.toArray⟩ := ⟨_, rfl⟩
  rw [← hn1] at z1 hr ⊢
  rw [← hn2] at z2 hr ⊢
  rw [← hn3] at z3 hr ⊢
  rw [← hs1] at z1 SC CC
  rw [← hs2] at z2 CC
  rw [← hs3] at z3 SC
  clear hn1 hn2 hn3 hs1 hs2 hs3 hu hc e hrow
  cases hb : Lib.hasSuffix c1 [43] with
  | true =>
    rw [hb] at SC
    clear hb
    go_enter Tryz.func24, Tryz.ntmps24
    go_wp2_with fail
    refine AC.out.mono ?_
    rintro e w1 ⟨rfl, hb1⟩
    have HB1 := Lib.hid hb1
    obtain ⟨m, hm⟩ := (EV.out w1 hb1).mx
    have CC1 := Lib.hid (CC.out m w1 hm)
    clear hb1 hm
    go_wp2_with fail
    refine CC1.out.mono ?_
    rintro e w2 ⟨rfl, n, rfl⟩
    go_wp2_with fail
    refine (SC.out _).mono ?_
    rintro e w3 ⟨rfl, rfl⟩
    go_wp2_with fail
    go_returns
    exact ⟨by rw [← z3]; rfl, below_drewN HB1.out _⟩
  | false =>
    rw [hb] at SC
    clear hb
    go_enter Tryz.func24, Tryz.ntmps24
    go_wp2_with fail
    refine AC.out.mono ?_
    rintro e w1 ⟨rfl, hb1⟩
    have HB1 := Lib.hid hb1
    obtain ⟨m, hm⟩ := (EV.out w1 hb1).mx
    have CC1 := Lib.hid (CC.out m w1 hm)
    clear hb1 hm
    go_wp2_with fail
    refine CC1.out.mono ?_
    rintro e w2 ⟨rfl, n, rfl⟩
    go_wp2_with fail
    refine (SC.out _).mono ?_
    rintro e w3 ⟨rfl, rfl⟩
    go_wp2_with fail
    go_returns
    exact ⟨by rw [← z1, ← z2]; rfl, below_drewN HB1.out _⟩

/-- Is a value of a letter's kind? -/
def kindB (c : UInt8) (k : Int) : Bool :=
  if c = 113 then k == 2 || k == 4 else if c = 108 then k == 4 else if c = 105 then k == 0 else if c = 115 then k == 2 else if c = 111 then k == 1 else if c = 101 then k == 3 else true
theorem u8_no {c : UInt8} {n : Nat} {m : UInt8} (h : ¬ c = m) (hm : m.toNat = n) : ((c.toNat : Int) == (n : Int)) = false :=
  beq_no (fun e => h (UInt8.toNat_inj.1 (by omega)))
set_option maxRecDepth 100000 in
set_option maxHeartbeats 2000000 in
theorem kind_c (c : UInt8) (k n : Int) (s : ByteArray) (v : Value) (w : World) :
    Calls Tryz.prog 52 #[.int .u8 (c.toNat : Int), .agg #[.int .i64 k, .int .i64 n, .string s, v]] w fun e w' => e = .returned (.bool (kindB c k)) ∧ Below w.heap.size w w' := by
  obtain ⟨wa, hwa⟩ : ∃ wa, wa = w.alloc (.cells #[.int .i64 k, .int .i64 n, .string s, v] 24) := ⟨_, rfl⟩
  have hb : Below w.heap.size w wa := by rw [hwa]; exact (Below.refl _ _).alloc (Nat.le_refl _) _
  have hV : StB wa w.heap.size (.int .i64 k) (.int .i64 n) (.string s) v := by rw [hwa]; exact StB.new w _ _ _ _
  have v0 := hV.c0
  rw [hwa] at v0
  have HB := Lib.hid hb
  have HWA := Lib.hid hwa
  obtain ⟨r, hr⟩ : ∃ r, r = kindB c k := ⟨_, rfl⟩
  rw [← hr]
  clear hb hwa hV
  by_cases h1 : c = 113
  · subst h1
    have q1 : (((113 : UInt8).toNat : Int) == 113) = true := rfl
    by_cases hk : k = 2
    · subst hk
      have HR := Lib.hid (show r = true from hr)
      clear hr
      go_enter Tryz.func52, Tryz.ntmps52
      go_wp2_with fail
      go_ret
      exact ⟨by rw [HR.out]; rfl, by rw [← HWA.out]; exact HB.out⟩
    · have q2 : (k == 2) = false := beq_no hk
      have HR := Lib.hid (show r = (k == 4) by rw [hr]; unfold kindB; rw [if_pos rfl, q2, Bool.false_or])
      clear hr
      go_enter Tryz.func52, Tryz.ntmps52
      go_wp2_with fail
      go_ret
      exact ⟨by rw [HR.out]; rfl, by rw [← HWA.out]; exact HB.out⟩
  · have n1 := u8_no (n := 113) h1 rfl
    have e1 : r = (if c = 108 then k == 4 else if c = 105 then k == 0 else if c = 115 then k == 2 else if c = 111 then k == 1 else if c = 101 then k == 3 else true) := by rw [hr]; unfold kindB; rw [if_neg h1]
    clear hr
    by_cases h2 : c = 108
    · subst h2
      have HR := Lib.hid (show r = (k == 4) by rw [e1, if_pos rfl])
      clear e1 h1
      go_enter Tryz.func52, Tryz.ntmps52
      go_wp2_with fail
      go_ret
      exact ⟨by rw [HR.out]; rfl, by rw [← HWA.out]; exact HB.out⟩
    · have n2 := u8_no (n := 108) h2 rfl
      rw [if_neg h2] at e1
      by_cases h3 : c = 105
      · subst h3
        have HR := Lib.hid (show r = (k == 0) by rw [e1, if_pos rfl])
        clear e1 h1 h2
        go_enter Tryz.func52, Tryz.ntmps52
        go_wp2_with fail
        go_ret
        exact ⟨by rw [HR.out]; rfl, by rw [← HWA.out]; exact HB.out⟩
      · have n3 := u8_no (n := 105) h3 rfl
        rw [if_neg h3] at e1
        by_cases h4 : c = 115
        · subst h4
          have HR := Lib.hid (show r = (k == 2) by rw [e1, if_pos rfl])
          clear e1 h1 h2 h3
          go_enter Tryz.func52, Tryz.ntmps52
          go_wp2_with fail
          go_ret
          exact ⟨by rw [HR.out]; rfl, by rw [← HWA.out]; exact HB.out⟩
        · have n4 := u8_no (n := 115) h4 rfl
          rw [if_neg h4] at e1
          by_cases h5 : c = 111
          · subst h5
            have HR := Lib.hid (show r = (k == 1) by rw [e1, if_pos rfl])
            clear e1 h1 h2 h3 h4
            go_enter Tryz.func52, Tryz.ntmps52
            go_wp2_with fail
            go_ret
            exact ⟨by rw [HR.out]; rfl, by rw [← HWA.out]; exact HB.out⟩
          · have n5 := u8_no (n := 111) h5 rfl
            rw [if_neg h5] at e1
            by_cases h6 : c = 101
            · subst h6
              have HR := Lib.hid (show r = (k == 3) by rw [e1, if_pos rfl])
              clear e1 h1 h2 h3 h4 h5
              go_enter Tryz.func52, Tryz.ntmps52
              go_wp2_with fail
              go_ret
              exact ⟨by rw [HR.out]; rfl, by rw [← HWA.out]; exact HB.out⟩
            · have n6 := u8_no (n := 101) h6 rfl
              have HR := Lib.hid (show r = true by rw [e1, if_neg h6])
              clear e1 h1 h2 h3 h4 h5 h6
              go_enter Tryz.func52, Tryz.ntmps52
              go_wp2_with fail
              go_ret
              exact ⟨by rw [HR.out]; rfl, by rw [← HWA.out]; exact HB.out⟩

/-- What is amiss with arguments' kinds, from one on. -/
def kindsP (s : List UInt8) : Nat → VL → Int
  | _, .nil => 0
  | i, .cons k _ _ _ r => if kindB (s.getD (min i (s.length - 1)) 0) k then kindsP s (i + 1) r else 1
def fitsP (nm : List UInt8) (l : VL) : Int :=
  if (argsP nm).2 then (if (l.len : Int) < (arityP nm).1 then 11 else if 0 ≤ (arityP nm).2 ∧ (arityP nm).2 < (l.len : Int) then 11 else kindsP (lettersP (argsP nm).1) 0 l) else 5
def rowC (a : List UInt8) : Bool := !(lettersP a).isEmpty || (decide ((arityE a).1 = 0) && decide ((arityE a).2 = 0))
def rowD (a : List UInt8) : Bool := decide (0 ≤ (arityE a).1) && decide ((arityE a).1 ≤ 10) && decide (-1 ≤ (arityE a).2) && decide ((arityE a).2 ≤ 20)
theorem rows_C : ((pureE ++ otherE).all fun e => rowC e.2 && rowD e.2) = true := by decide +kernel
theorem args_rowC (nm : List UInt8) : rowC (argsP nm).1 = true ∧ rowD (argsP nm).1 = true := by
  have h := List.all_eq_true.1 rows_C
  have h0 : rowC [] = true ∧ rowD [] = true := by decide +kernel
  have hx : ∀ x ∈ pureE ++ otherE, rowC x.2 = true ∧ rowD x.2 = true := fun x hx => by have := h x hx; rwa [Bool.and_eq_true] at this
  unfold argsP
  rcases find_mem pureE nm with ⟨h1, _⟩ | ⟨x, hx1, _, h2⟩
  · rw [h1]
    rcases find_mem otherE nm with ⟨h1, _⟩ | ⟨x, hx1, _, h2⟩
    · rw [h1]; exact h0
    · rw [h2]; exact hx x (List.mem_append_right _ hx1)
  · rw [h2]; exact hx x (List.mem_append_left _ hx1)
theorem kindsP_cons (s : List UInt8) (i : Nat) (k n : Int) (t : ByteArray) (v r : VL) : kindsP s i (.cons k n t v r) = if kindB (s.getD (min i (s.length - 1)) 0) k then kindsP s (i + 1) r else 1 := rfl

set_option maxRecDepth 100000 in
set_option maxHeartbeats 4000000 in
theorem ffits_c (name : ByteArray) (l : VL) (A : Option Addr) (c : Nat) (w : World) (he : FnEnv w) (hc : l.len ≤ c) (hlen : l.len ≤ 100000) (hrep : RpL w (fun b => b < w.heap.size) l A) :
    Calls Tryz.prog 33 #[.string name, .slice A l.len c] w fun e w' => e = .returned (.int .i64 (fitsP name.data.toList l)) ∧ Below w.heap.size w w' := by
  have hroom := he.room
  have hrow := args_rowB name.data.toList
  obtain ⟨hrc, hrd⟩ := args_rowC name.data.toList
  have AC := Lib.hid (args_c name w he)
  have RC := Lib.hid (fun W (hW : Below w.heap.size w W) => arity_c name W (he.below hW (by omega)))
  have EV := Lib.hid (fun W (hW : Below w.heap.size w W) => he.below hW (by omega))
  have HRP := Lib.hid (fun W (hW : Below w.heap.size w W) => hrep.keep (w' := W) (S' := fun b => b < W.heap.size) (fun b hlt => hW.block b hlt) (fun b hlt => Nat.lt_of_lt_of_le hlt hW.size))
  have e0 : fitsP name.data.toList l = if (argsP name.data.toList).2 then (if (l.len : Int) < (arityP name.data.toList).1 then 11 else if 0 ≤ (arityP name.data.toList).2 ∧ (arityP name.data.toList).2 < (l.len : Int) then 11 else kindsP (lettersP (argsP name.data.toList).1) 0 l) else 5 := rfl
  rw [e0]
  rw [arityP_eq] at RC
  obtain ⟨p, hp⟩ : ∃ p, p = argsP name.data.toList := ⟨_, rfl⟩
  rw [arityP_eq]
  rw [← hp] at AC RC hrow hrc hrd ⊢
  obtain ⟨a, b⟩ := p
  clear hp he e0 hrep
  simp only at AC RC hrow hrc hrd ⊢
  simp only [rowB, Bool.and_eq_true, decide_eq_true_eq] at hrow
  simp only [rowD, Bool.and_eq_true, decide_eq_true_eq] at hrd
  obtain ⟨q, hq⟩ : ∃ q, q = arityE a := ⟨_, rfl⟩
  rw [← hq] at RC hrd ⊢
  have TC := Lib.hid (fun W => Tryz.strings_TrimSuffix ⟨a.toArray⟩ ⟨#[43]⟩ W (by rw [ba_size]; omega))
  rw [toList_mk, show (⟨#[43]⟩ : ByteArray).data.toList = [43] from rfl] at TC
  have PC := Lib.hid (fun (m : Int) W hm => Tryz.strings_ReplaceAll ⟨(Lib.trimSuffix a [43]).toArray⟩ ⟨#[63]⟩ ⟨#[]⟩ m W (by rw [ba_size]; omega) hm (by decide) (by rw [ba_size]; show _ + _ * 0 ≤ _; omega))
  rw [toList_mk, show (⟨#[63]⟩ : ByteArray).data.toList = [63] from rfl, show (⟨#[]⟩ : ByteArray).data.toList = [] from rfl, show Lib.replaceAll (Lib.trimSuffix a [43]) [63] [] = lettersP a from rfl] at PC
  obtain ⟨L, hL⟩ : ∃ L, L = lettersP a := ⟨_, rfl⟩
  rw [← hL] at PC hrow ⊢
  have hLz : l.len = 0 ∨ L ≠ [] ∨ (q.1 = 0 ∧ q.2 = 0) := by
    by_cases h : L = []
    · right; right
      unfold rowC at hrc
      rw [← hL, ← hq, h] at hrc
      simpa using hrc
    · exact .inr (.inl h)
  obtain ⟨q1, q2⟩ := q
  clear hq hL hrc
  simp only at RC hrd hLz ⊢
  obtain ⟨s1, hs1⟩ : ∃ s : ByteArray, s = ⟨a.toArray⟩ := ⟨_, rfl⟩
  obtain ⟨s2, hs2⟩ : ∃ s : ByteArray, s = ⟨(Lib.trimSuffix a [43]).toArray⟩ := ⟨_, rfl⟩
  rw [← hs1] at AC TC
  rw [← hs2] at TC PC
  clear hs1 hs2
  cases b with
  | false =>
    go_enter Tryz.func33, Tryz.ntmps33
    go_wp2_with fail
    refine AC.out.mono ?_
    rintro e w1 ⟨rfl, hb1⟩
    have HB1 := Lib.hid hb1
    clear hb1
    go_wp2_with fail
    go_ret
    exact ⟨rfl, HB1.out⟩
  | true =>
    rw [if_pos rfl]
    by_cases h1 : (l.len : Int) < q1
    · rw [if_pos h1]
      have d1 : decide ((l.len : Int) < q1) = true := decide_eq_true h1
      go_enter Tryz.func33, Tryz.ntmps33
      go_wp2_with fail
      refine AC.out.mono ?_
      rintro e w1 ⟨rfl, hb1⟩
      have HB1 := Lib.hid hb1
      have RC1 := Lib.hid (RC.out w1 hb1)
      clear hb1
      go_wp2_with fail
      refine RC1.out.mono ?_
      rintro e w2 ⟨rfl, hb2⟩
      have HB2 := Lib.hid (HB1.out.trans (below_le' hb2 HB1.out.size))
      clear hb2
      go_wp2_with fail
      go_ret
      exact ⟨rfl, HB2.out⟩
    · rw [if_neg h1]
      have d1 : decide ((l.len : Int) < q1) = false := decide_eq_false h1
      by_cases h2 : 0 ≤ q2 ∧ q2 < (l.len : Int)
      · rw [if_pos h2]
        obtain ⟨h2a, h2b⟩ := h2
        have d2 : decide ((0 : Int) ≤ q2) = true := decide_eq_true h2a
        have d3 : decide (q2 < (l.len : Int)) = true := decide_eq_true h2b
        go_enter Tryz.func33, Tryz.ntmps33
        go_wp2_with fail
        refine AC.out.mono ?_
        rintro e w1 ⟨rfl, hb1⟩
        have HB1 := Lib.hid hb1
        have RC1 := Lib.hid (RC.out w1 hb1)
        clear hb1
        go_wp2_with fail
        refine RC1.out.mono ?_
        rintro e w2 ⟨rfl, hb2⟩
        have HB2 := Lib.hid (HB1.out.trans (below_le' hb2 HB1.out.size))
        clear hb2
        go_wp2_with fail
        go_ret
        exact ⟨rfl, HB2.out⟩
      · rw [if_neg h2]
        have h3 : (0 ≤ q2 → ¬ q2 < (l.len : Int)) := fun h => fun h' => h2 ⟨h, h'⟩
        have hLn : l.len = 0 ∨ 0 < L.length := by
          rcases hLz with h | h | ⟨_, h⟩
          · exact .inl h
          · exact .inr (List.length_pos_iff.2 h)
          · left; have := h3 (by omega); omega
        have hLS := ba_size L
        obtain ⟨LS, hLSe⟩ : ∃ s : ByteArray, s = ⟨L.toArray⟩ := ⟨_, rfl⟩
        rw [← hLSe] at PC hLS
        have HLT := Lib.hid (show LS.data.toList = L by rw [hLSe])
        obtain ⟨res, hres⟩ : ∃ r, r = kindsP L 0 l := ⟨_, rfl⟩
        rw [← hres]
        have HRS := Lib.hid hres
        have hL10 : L.length ≤ 10 := by omega
        clear hLSe hres hLz h2
        go_enter Tryz.func33, Tryz.ntmps33
        go_wp2_with fail
        refine AC.out.mono ?_
        rintro e w1 ⟨rfl, hb1⟩
        have HB1 := Lib.hid hb1
        have RC1 := Lib.hid (RC.out w1 hb1)
        clear hb1
        go_wp2_with fail
        refine RC1.out.mono ?_
        rintro e w2 ⟨rfl, hb2⟩
        have HB2 := Lib.hid (HB1.out.trans (below_le' hb2 HB1.out.size))
        obtain ⟨m, hm⟩ := (EV.out w2 HB2.out).mx
        have PC2 := Lib.hid (PC.out m w2 hm)
        clear hb2 hm
        go_upto_region 5 with fail
        go_cut [36] (fun cv wx => cv = .bool false ∧ w2 = wx)
        case first =>
          by_cases h4 : (0 : Int) ≤ q2
          · have d2 : decide ((0 : Int) ≤ q2) = true := decide_eq_true h4
            have d3 : decide (q2 < (l.len : Int)) = false := decide_eq_false (by have := h3 h4; omega)
            have h5 := h3 h4
            clear h3
            go_wp2_with fail
            go_meet
            exact ⟨rfl, rfl⟩
          · have d2 : decide ((0 : Int) ≤ q2) = false := decide_eq_false h4
            clear h3
            go_wp2_with fail
            go_meet
            exact ⟨rfl, rfl⟩
        case rest =>
          obtain ⟨rfl, hcut⟩ := hcut
          subst hcut
          clear h3
          go_wp2_with fail
          refine (TC.out _).mono ?_
          rintro e w3 ⟨rfl, hw3⟩
          subst hw3
          go_wp2_with fail
          refine PC2.out.mono ?_
          rintro e w4 ⟨rfl, hb4⟩
          have HB4 := Lib.hid (HB2.out.trans (below_le' hb4 HB2.out.size))
          clear hb4
          go_wp2_with fail
          go_loopg [42] l.len (fun kk iv wr => ∃ i : Nat, iv = .int .i64 (i : Int) ∧ i + kk = l.len ∧ Hid (Below w4.heap.size w4 wr) ∧ Hid (kindsP L i (l.drop i) = res))
          case atStart => exact ⟨0, rfl, by omega, Below.refl _ _, by show kindsP L 0 (l.drop 0) = res; rw [VL.drop]; exact HRS.out.symm⟩
          case round =>
            obtain ⟨i, rfl, hk, HBW, HQ⟩ := hrel
            by_cases hi : i < l.len
            · obtain ⟨kk, rfl⟩ : ∃ kk, gk = kk + 1 := ⟨gk - 1, by omega⟩
              have hbW := HB4.out.trans (below_le' HBW.out HB4.out.size)
              obtain ⟨b, o, k', n', s', sub', sa', sc', hA, hd, hSb, c0, c1, c2, c3, hcl, hrs, hszd⟩ := rp_at (HRP.out wr hbW) hi
              have hqq := HQ.out
              rw [hd, kindsP_cons] at hqq
              have hL0 : 0 < L.length := by rcases hLn with h | h <;> omega
              obtain ⟨j, hj⟩ : ∃ j, j = min i (L.length - 1) := ⟨_, rfl⟩
              rw [← hj] at hqq
              have hjL : j < L.length := by rw [hj]; omega
              obtain ⟨m0, hm0⟩ : ∃ m0, m0 = L.length - 1 := ⟨_, rfl⟩
              have hmin : min (i : Int) ((L.length : Int) - 1) = (j : Int) := by rw [hj]; omega
              obtain ⟨ch, hch⟩ : ∃ ch, ch = L.getD j 0 := ⟨_, rfl⟩
              rw [← hch] at hqq
              have hjs : j < LS.size := by rw [hLS]; exact hjL
              have HCH := Lib.hid (show LS[j] = ch by
                have h1 := HLT.out
                rw [hch, List.getD_eq_getElem?_getD, List.getElem?_eq_getElem hjL]
                have e : LS[j] = LS.data.toList[j]'(by rw [h1]; exact hjL) := rfl
                rw [e]
                simp [h1])
              subst hA
              have hB9 := HB4.out.trans (below_le' HBW.out HB4.out.size)
              obtain ⟨wx, hwx⟩ : ∃ wx, wx = wr.alloc (.cells #[.int .i64 k', .int .i64 n', .string s', .slice sa' sub'.len sc'] 24) := ⟨_, rfl⟩
              have hbx : Below wr.heap.size wr wx := by rw [hwx]; exact (Below.refl _ _).alloc (Nat.le_refl _) _
              have hVx : StB wx wr.heap.size (.int .i64 k') (.int .i64 n') (.string s') (.slice sa' sub'.len sc') := by rw [hwx]; exact StB.new wr _ _ _ _
              have v0 := hVx.c0; have v1 := hVx.c1; have v2 := hVx.c2; have v3 := hVx.c3
              have j0 : (0 : Int) ≤ (j : Int) := by omega
              have j1 : (j : Int) < (LS.size : Int) := by omega
              have HBX := Lib.hid (HBW.out.trans (below_le' hbx HBW.out.size))
              have hmn : min (i : Int) (IntKind.i64.wrap ((LS.size : Int) - 1)) = (j : Int) := by
                rw [show IntKind.i64.wrap ((LS.size : Int) - 1) = (LS.size : Int) - 1 from by rw [IntKind.wrap_i64]; omega]
                omega
              have j0 : (0 : Int) ≤ (j : Int) := by omega
              have j1 : (j : Int) < (LS.size : Int) := by omega
              obtain ⟨S, hS⟩ : ∃ S : World → Prop, S = fun W => W.cell? ⟨wr.heap.size, 0, none⟩ = some (.int .i64 k') ∧ W.cell? ⟨wr.heap.size, 1, none⟩ = some (.int .i64 n') ∧ W.cell? ⟨wr.heap.size, 2, none⟩ = some (.string s') ∧ W.cell? ⟨wr.heap.size, 3, none⟩ = some (.slice sa' sub'.len sc') ∧ Below wx.heap.size wx W := ⟨_, rfl⟩
              have hxz : wr.heap.size < wx.heap.size := by rw [hwx]; simp
              have KS : ∀ W, Below wx.heap.size wx W → S W := fun W h => by rw [hS]; exact ⟨(h.cell (p := ⟨wr.heap.size, 0, none⟩) hxz).trans v0, (h.cell (p := ⟨wr.heap.size, 1, none⟩) hxz).trans v1, (h.cell (p := ⟨wr.heap.size, 2, none⟩) hxz).trans v2, (h.cell (p := ⟨wr.heap.size, 3, none⟩) hxz).trans v3, h⟩
              have BS : ∀ W, S W → Below wx.heap.size wx W := fun W h => by rw [hS] at h; exact h.2.2.2.2
              have K0 := Lib.hid (KS _ ((Below.refl wx.heap.size wx).drew))
              have KC := Lib.hid (fun W (h : S W) => (kind_c (LS[j]'hjs) k' n' s' (.slice sa' sub'.len sc') W).mono (R' := fun e w' => e = .returned (.bool (kindB (LS[j]'hjs) k')) ∧ S w') fun e w' ⟨h2, h3⟩ => ⟨h2, KS _ ((BS W h).trans (below_le' h3 (BS W h).size))⟩)
              rw [show kindB (LS[j]'hjs) k' = kindB ch k' by rw [HCH.out]] at KC
              have HWX := Lib.hid hwx
              clear hd hrs hbW hB9 hwx hbx hVx hch KS BS hm0 hLS hLn hjL hL10 hj
              subst hS
              cases hkb : kindB ch k' with
              | true =>
                rw [hkb] at KC
                rw [hkb, if_pos rfl] at hqq
                have HQ2 := Lib.hid hqq
                clear hqq hkb HQ
                go_wp2_with fail
                rw [← HWX.out]
                go_region_held3 (fun W => W.cell? ⟨wr.heap.size, 0, none⟩ = some (.int .i64 k') ∧ W.cell? ⟨wr.heap.size, 1, none⟩ = some (.int .i64 n') ∧ W.cell? ⟨wr.heap.size, 2, none⟩ = some (.string s') ∧ W.cell? ⟨wr.heap.size, 3, none⟩ = some (.slice sa' sub'.len sc') ∧ Below wx.heap.size wx W)
                  (first | (with_reducible assumption) | (with_reducible exact K0.out))
                  (first
                    | (go_at_call 52; refine (KC.out _ ?_).mono ?_; (with_reducible assumption); rintro e w8 ⟨rfl, hs8⟩)
                    )
                have HB8 := Lib.hid (HBX.out.trans (below_le' hs8.2.2.2.2 HBX.out.size))
                clear hs8 KC K0
                go_wp2_with fail
                go_roundg kk
                case measure => omega
                case rel => exact ⟨i + 1, by go_num, by omega, HB8, HQ2⟩
              | false =>
                rw [hkb] at KC
                rw [hkb, if_neg (by decide)] at hqq
                have HQ2 := Lib.hid hqq
                clear hqq hkb HQ
                go_wp2_with fail
                rw [← HWX.out]
                go_region_held3 (fun W => W.cell? ⟨wr.heap.size, 0, none⟩ = some (.int .i64 k') ∧ W.cell? ⟨wr.heap.size, 1, none⟩ = some (.int .i64 n') ∧ W.cell? ⟨wr.heap.size, 2, none⟩ = some (.string s') ∧ W.cell? ⟨wr.heap.size, 3, none⟩ = some (.slice sa' sub'.len sc') ∧ Below wx.heap.size wx W)
                  (first | (with_reducible assumption) | (with_reducible exact K0.out))
                  (first
                    | (go_at_call 52; refine (KC.out _ ?_).mono ?_; (with_reducible assumption); rintro e w8 ⟨rfl, hs8⟩)
                    )
                have HB8 := Lib.hid (HBX.out.trans (below_le' hs8.2.2.2.2 HBX.out.size))
                clear hs8 KC K0
                go_wp2_with fail
                go_ret
                exact ⟨by rw [← HQ2.out]; rfl, HB4.out.trans (below_le' HB8.out HB4.out.size)⟩
            · have hiE : i = l.len := by omega
              subst hiE
              have hqq := HQ.out
              rw [VL.drop_len] at hqq
              have HQ2 := Lib.hid (show res = 0 from hqq.symm)
              have HB9 := Lib.hid (HB4.out.trans (below_le' HBW.out HB4.out.size))
              clear hqq HQ
              go_wp2_with fail
              go_ret
              exact ⟨by rw [HQ2.out]; rfl, HB9.out⟩
end Go.Proofs.YtbalpfpcbckghaaGreatDoor
namespace Go.Proofs.YtbalpfpcbckghaaGreatDoor
open Go.RowKit Go.Lib Go.Sort
set_option linter.unusedVariables false

end Go.Proofs.YtbalpfpcbckghaaGreatDoor
namespace Go.Proofs.YtbalpfpcbckghaaGreatDoor
open Go.RowKit Go.Lib Go.Sort
set_option linter.unusedVariables false

end Go.Proofs.YtbalpfpcbckghaaGreatDoor
namespace Go.Proofs.YtbalpfpcbckghaaGreatDoor
open Go.RowKit Go.Lib
set_option linter.unusedVariables false

/-- Texts in a row of memory, wherever it begins; none: the row may be anywhere. -/
def StrO (w : World) (A : Option Addr) (l : List (List UInt8)) : Prop := l = [] ∨ ∃ g o, A = some ⟨g, o, none⟩ ∧ g < w.heap.size ∧ ∀ j x, l[j]? = some x → w.cell? ⟨g, o + j, none⟩ = some (.string ⟨x.toArray⟩)
theorem StrO.below {w w' : World} {A : Option Addr} {l : List (List UInt8)} (h : StrO w A l) (hb : Below w.heap.size w w') : StrO w' A l := by
  rcases h with h | ⟨g, o, hA, hg, hc⟩
  · exact .inl h
  · exact .inr ⟨g, o, hA, Nat.lt_of_lt_of_le hg hb.size, fun j x hj => (hb.cell (p := ⟨g, o + j, none⟩) hg).trans (hc j x hj)⟩
theorem StrO.take {w : World} {A : Option Addr} {l : List (List UInt8)} (h : StrO w A l) (n : Nat) : StrO w A (l.take n) := by
  rcases h with rfl | ⟨g, o, hA, hg, hc⟩
  · exact .inl (by simp)
  · refine .inr ⟨g, o, hA, hg, fun j x hj => hc j x ?_⟩
    rw [List.getElem?_take] at hj
    split at hj
    · exact hj
    · cases hj
theorem StrO.drop {w : World} {g o : Nat} {l : List (List UInt8)} (h : StrO w (some ⟨g, o, none⟩) l) (n : Nat) : StrO w (some ⟨g, o + n, none⟩) (l.drop n) := by
  rcases h with rfl | ⟨g', o', hA, hg, hc⟩
  · exact .inl (by simp)
  · injection hA with hA
    injection hA with h1 h2
    subst h1 h2
    refine .inr ⟨g, o + n, rfl, hg, fun j x hj => ?_⟩
    rw [Nat.add_assoc]
    exact hc (n + j) x (by rwa [List.getElem?_drop] at hj)
end Go.Proofs.YtbalpfpcbckghaaGreatDoor
namespace Go.Proofs.YtbalpfpcbckghaaGreatDoor
open Go.RowKit Go.Lib
set_option linter.unusedVariables false

end Go.Proofs.YtbalpfpcbckghaaGreatDoor
