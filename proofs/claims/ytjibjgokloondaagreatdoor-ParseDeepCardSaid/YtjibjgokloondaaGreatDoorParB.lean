/- Contracts of the functions that the statement reaches, and the plain mathematics beneath: several texts joined. -/
import Derived.Test.YtjibjgokloondaaGreatDoorParA
import Derived.IntWalk
import Derived.Maps.AppendAt
import Derived.Laws.ResultCell
namespace Go.Proofs.YtjibjgokloondaaGreatDoor
open Go.RowKit Go.Lib

/-- The names of the codes, by number. -/
def nmL : List ByteArray := [⟨#[69, 95, 78, 79, 78, 69]⟩, ⟨#[69, 95, 84, 89, 80, 69]⟩, ⟨#[69, 95, 68, 73, 86]⟩, ⟨#[69, 95, 80, 69, 82, 77]⟩, ⟨#[69, 95, 80, 82, 79, 80, 78, 70]⟩, ⟨#[69, 95, 86, 69, 82, 66, 78, 70]⟩,
  ⟨#[69, 95, 86, 65, 82, 78, 70]⟩, ⟨#[69, 95, 73, 78, 86, 73, 78, 68]⟩, ⟨#[69, 95, 82, 69, 67, 77, 79, 86, 69]⟩, ⟨#[69, 95, 77, 65, 88, 82, 69, 67]⟩, ⟨#[69, 95, 82, 65, 78, 71, 69]⟩, ⟨#[69, 95, 65, 82, 71, 83]⟩,
  ⟨#[69, 95, 78, 65, 67, 67]⟩, ⟨#[69, 95, 73, 78, 86, 65, 82, 71]⟩, ⟨#[69, 95, 81, 85, 79, 84, 65]⟩]
theorem nmL_len : nmL.length = 15 := rfl

theorem names_c (w : World) : Calls Tryz.prog 91 #[] w fun e w' => e = .returned (.slice (some ⟨w.heap.size, 0, none⟩) 15 15) ∧ w' = w.alloc (.cells (nmL.map Value.string).toArray 9) := by
  go_enter Tryz.func91, Tryz.ntmps91
  go_wp2
  go_ret
  exact ⟨rfl, rfl⟩

/-- How many letters of a name are at hand, from the k-th on; with fuel. -/
def cpl (s : ByteArray) (i : Nat) (n : ByteArray) : Nat → Nat → Nat
  | 0, k => k
  | f + 1, k => if k < n.size ∧ i + k < s.size ∧ pk s (i + k) = pk n k then cpl s i n f (k + 1) else k
def cp (s : ByteArray) (i : Nat) (n : ByteArray) : Nat := cpl s i n (n.size + 1) 0

/-- What is known behind one name more: the code, how many of its letters, the most letters of any. -/
def codeStep (s : ByteArray) (i : Nat) (n : ByteArray) (c : Nat) (r : Int × Int × Int) : Int × Int × Int :=
  if (cp s i n = n.size ∧ r.2.1 < cp s i n) then (c, cp s i n, max r.2.2 (cp s i n)) else (r.1, r.2.1, max r.2.2 (cp s i n))
def codeTo (s : ByteArray) (i : Nat) : Nat → Int × Int × Int
  | 0 => (0, -1, 0)
  | c + 1 => codeStep s i (nmL.getD c ByteArray.empty) c (codeTo s i c)

/-- A code: the place behind its name, whether all is right, the code. -/
def codeSp (s : ByteArray) (i : Nat) : Nat × Bool × Int :=
  let r := codeTo s i 15
  if r.2.1 < 0 then (i + r.2.2.toNat, false, r.1) else (i + r.2.1.toNat, true, r.1)

theorem cpl_le (s : ByteArray) (i : Nat) (n : ByteArray) : ∀ (f k : Nat), k ≤ n.size → k ≤ cpl s i n f k ∧ cpl s i n f k ≤ n.size
  | 0, k, h => ⟨Nat.le_refl _, h⟩
  | f + 1, k, h => by
    unfold cpl
    split
    · rename_i hc
      have := cpl_le s i n f (k + 1) (by omega)
      omega
    · omega
theorem cp_le (s : ByteArray) (i : Nat) (n : ByteArray) : cp s i n ≤ n.size := (cpl_le s i n _ 0 (Nat.zero_le _)).2

theorem nm_short : ∀ n ∈ nmL, n.size ≤ 20 := by decide

theorem codeTo_range (s : ByteArray) (i : Nat) : ∀ c, c ≤ 15 → (0 ≤ (codeTo s i c).1 ∧ (codeTo s i c).1 ≤ 14) ∧ (-1 ≤ (codeTo s i c).2.1 ∧ (codeTo s i c).2.1 ≤ 20) ∧ (0 ≤ (codeTo s i c).2.2 ∧ (codeTo s i c).2.2 ≤ 20)
  | 0, _ => by simp [codeTo]
  | c + 1, h => by
    obtain ⟨h1, h2, h3⟩ := codeTo_range s i c (by omega)
    have hc : c < nmL.length := by rw [nmL_len]; omega
    have hn : (nmL.getD c ByteArray.empty).size ≤ 20 := by
      rw [List.getD_eq_getElem?_getD, List.getElem?_eq_getElem hc]
      exact nm_short _ (List.getElem_mem hc)
    have hcp := cp_le s i (nmL.getD c ByteArray.empty)
    rw [codeTo, codeStep]
    split
    · refine ⟨?_, ?_, ?_⟩ <;> simp only <;> omega
    · refine ⟨?_, ?_, ?_⟩ <;> simp only <;> omega
end Go.Proofs.YtjibjgokloondaaGreatDoor
namespace Go.Proofs.YtjibjgokloondaaGreatDoor
open Go.RowKit Go.Lib

theorem cpl_step (s : ByteArray) (i : Nat) (n : ByteArray) (f k : Nat) (h : k < n.size ∧ i + k < s.size ∧ pk s (i + k) = pk n k) : cpl s i n (f + 1) k = cpl s i n f (k + 1) := by
  rw [cpl, if_pos h]
theorem cpl_stop (s : ByteArray) (i : Nat) (n : ByteArray) (f k : Nat) (h : ¬(k < n.size ∧ i + k < s.size ∧ pk s (i + k) = pk n k)) : cpl s i n f k = k := by
  cases f with
  | zero => rfl
  | succ f => rw [cpl, if_neg h]

theorem names_cell (w : World) (c : Nat) (hc : c < 15) (n : Nat) : ((w.alloc (.cells (nmL.map Value.string).toArray 9)).drewN n).cell? ⟨w.heap.size, c, none⟩ = some (.string (nmL.getD c ByteArray.empty)) := by
  show (w.alloc (.cells (nmL.map Value.string).toArray 9)).cell? ⟨w.heap.size, c, none⟩ = _
  rw [World.cell?_alloc_at _ _ _ _ rfl]
  have hc' : c < nmL.length := by rw [nmL_len]; omega
  rw [List.getD_eq_getElem?_getD, List.getElem?_eq_getElem hc']
  simp [hc']

set_option maxRecDepth 100000 in
set_option maxHeartbeats 2000000 in
theorem code_c (R : Nat) (s : ByteArray) (i : Nat) (w : World) (h : RdAt w R s i true) (hs : s.size ≤ 1000000000) (hi : i ≤ s.size) :
    Calls Tryz.prog 117 #[.pointer (some ⟨R, 0, none⟩)] w fun e w' => e = .returned (.int .i64 (codeSp s i).2.2) ∧ Rds w w' R s (codeSp s i).1 (codeSp s i).2.1 := by
  have hRl := h.lt
  have HNM := Lib.hid (names_cell w)
  obtain ⟨w1, hw1⟩ : ∃ w1, w1 = w.alloc (.cells (nmL.map Value.string).toArray 9) := ⟨_, rfl⟩
  have hr1 : Rds w w1 R s i true := by rw [hw1]; exact (Rds.of h).alloc _
  have hnm := names_c w
  rw [← hw1] at HNM hnm
  have NMC := Lib.hid (hnm.mono (fun e w' ⟨he, hw⟩ => (⟨he, hw.symm⟩ : e = _ ∧ w1 = w')))
  clear hnm
  have HR1 := Lib.hid hr1
  have a0 := hr1.at_.c0
  have a1 := hr1.at_.c1
  have a2 := hr1.at_.c2
  have af1 := hr1.at_.fr 1
  have af2 := hr1.at_.fr 2
  clear hr1 h
  go_enter Tryz.func117, Tryz.ntmps117
  go_wp2_with fail
  refine NMC.out.mono ?_
  rintro e w' ⟨rfl, rfl⟩
  clear hw1
  go_wp2_with fail
  go_loopg [3, 4, 5, 11] 15 (fun k v3 v4 v5 v11 wr => ∃ (c n : Nat) (x y z : Int), c + k = 15 ∧ v11 = .int .i64 c ∧ wr = w1.drewN n ∧ v3 = .int .i64 x ∧ v4 = .int .i64 y ∧ v5 = .int .i64 z ∧ Hid (codeTo s i c = (x, y, z)))
  case atStart => exact ⟨0, 0, 0, -1, 0, rfl, rfl, rfl, rfl, rfl, rfl, rfl⟩
  case round =>
    obtain ⟨c, n, x, y, z, hck, rfl, rfl, rfl, rfl, rfl, hct⟩ := hrel
    have hrng := codeTo_range s i c (by omega)
    rw [hct.out] at hrng
    obtain ⟨⟨x1, x2⟩, ⟨y1, y2⟩, ⟨z1, z2⟩⟩ := hrng
    simp only at x1 x2 y1 y2 z1 z2
    by_cases hlt : c < 15
    · obtain ⟨f, rfl⟩ : ∃ f, gk = f + 1 := ⟨gk - 1, by omega⟩
      obtain ⟨nm, hnm⟩ : ∃ nm, nm = nmL.getD c ByteArray.empty := ⟨_, rfl⟩
      have hcell := HNM.out c hlt n
      rw [← hnm] at hcell
      have hnl : nm.size ≤ 20 := by
        rw [hnm, List.getD_eq_getElem?_getD, List.getElem?_eq_getElem (by rw [nmL_len]; omega)]
        exact nm_short _ (List.getElem_mem _)
      have HST := Lib.hid (show codeTo s i (c + 1) = codeStep s i nm c (x, y, z) by rw [codeTo, hct.out, hnm])
      clear hnm
      go_wp2_with fail
      go_loopg [8] (nm.size + 1) (fun k' v8 wr => ∃ (m n' : Nat), v8 = .int .i64 m ∧ wr = w1.drewN n' ∧ m ≤ nm.size ∧ nm.size + 1 = m + k' ∧ Hid (cpl s i nm k' m = cp s i nm))
      case atStart => exact ⟨0, n, rfl, rfl, Nat.zero_le _, by omega, rfl⟩
      case round =>
        obtain ⟨m, n', rfl, rfl, hm, hmk, hcp⟩ := hrel
        obtain ⟨f', rfl⟩ : ∃ f', gk = f' + 1 := ⟨gk - 1, by omega⟩
        by_cases hm1 : m < nm.size
        · have t1 : decide ((m : Int) < (nm.size : Int)) = true := by simpa using hm1
          by_cases hm2 : i + m < s.size
          · by_cases hb : pk s (i + m) = pk nm m
            · have HCP := Lib.hid ((cpl_step s i nm f' m ⟨hm1, hm2, hb⟩).symm.trans hcp.out)
              have hq : ((s[i + m].toNat : Int) == (nm[m].toNat : Int)) = true := by rw [← pk_in s _ hm2, ← pk_in nm _ hm1, hb]; simp
              have hm2' : (i : Int) + (m : Int) < (s.size : Int) := by omega
              have g1 : IntKind.i64.wrap ((i : Int) + (m : Int)) = (i : Int) + (m : Int) := IntWalk.i64_in _ ⟨by omega, by omega⟩
              have g2 : (0 : Int) ≤ (i : Int) + (m : Int) := by omega
              have g3 : ((i : Int) + (m : Int)).toNat = i + m := by omega
              clear hb t1
              go_wp2
              go_quiet (fail)
              clear g1
              go_wp2
              go_roundg f'
              case measure => omega
              case rel => exact ⟨m + 1, _, by go_num, rfl, by omega, by omega, HCP.out⟩
            · have HM := Lib.hid (hcp.out.symm.trans (cpl_stop s i nm _ m (fun hh => hb hh.2.2)))
              have hq : ((s[i + m].toNat : Int) == (nm[m].toNat : Int)) = false := by
                rw [← pk_in s _ hm2, ← pk_in nm _ hm1, beq_eq_false_iff_ne]
                intro e
                exact hb (UInt8.toNat_inj.1 (by omega))
              have hm2' : (i : Int) + (m : Int) < (s.size : Int) := by omega
              clear hb t1
              by_cases hfull : m = nm.size
              · have e1 : ((m : Int) == (nm.size : Int)) = true := by rw [hfull]; simp
                by_cases hmore : y < (m : Int)
                · have HS2 := Lib.hid (show codeTo s i (c + 1) = ((c : Int), (m : Int), max z (m : Int)) by rw [HST.out, codeStep, if_pos ⟨by rw [HM.out, hfull], by rw [HM.out]; exact hmore⟩, HM.out])
                  clear hfull
                  have g2 : (0 : Int) ≤ (i : Int) + (m : Int) := by omega
                  have g3 : ((i : Int) + (m : Int)).toNat = i + m := by omega
                  have g1 : IntKind.i64.wrap ((i : Int) + (m : Int)) = (i : Int) + (m : Int) := IntWalk.i64_in _ ⟨by omega, by omega⟩
                  go_wp2
                  go_quiet (fail)
                  clear g1
                  go_wp2
                  all_goals
                    go_roundg f
                    case measure => omega
                    case rel => exact ⟨c + 1, _, _, _, max z (m : Int), by omega, by go_num, rfl, rfl, rfl, (by congr 1; omega), HS2.out⟩
                · have hmore' : (m : Int) ≤ y := by omega
                  have HS2 := Lib.hid (show codeTo s i (c + 1) = (x, y, max z (m : Int)) by rw [HST.out, codeStep, if_neg (by rw [HM.out]; simp only; omega), HM.out])
                  clear hmore hfull
                  have g2 : (0 : Int) ≤ (i : Int) + (m : Int) := by omega
                  have g3 : ((i : Int) + (m : Int)).toNat = i + m := by omega
                  have g1 : IntKind.i64.wrap ((i : Int) + (m : Int)) = (i : Int) + (m : Int) := IntWalk.i64_in _ ⟨by omega, by omega⟩
                  go_wp2
                  go_quiet (fail)
                  clear g1
                  go_wp2
                  all_goals
                    go_roundg f
                    case measure => omega
                    case rel => exact ⟨c + 1, _, _, _, max z (m : Int), by omega, by go_num, rfl, rfl, rfl, (by congr 1; omega), HS2.out⟩
              · have e1 : ((m : Int) == (nm.size : Int)) = false := by rw [beq_eq_false_iff_ne]; omega
                have HS2 := Lib.hid (show codeTo s i (c + 1) = (x, y, max z (m : Int)) by rw [HST.out, codeStep, if_neg (by rw [HM.out]; omega), HM.out])
                clear hfull
                have g2 : (0 : Int) ≤ (i : Int) + (m : Int) := by omega
                have g3 : ((i : Int) + (m : Int)).toNat = i + m := by omega
                have g1 : IntKind.i64.wrap ((i : Int) + (m : Int)) = (i : Int) + (m : Int) := IntWalk.i64_in _ ⟨by omega, by omega⟩
                go_wp2
                go_quiet (fail)
                clear g1
                go_wp2
                all_goals
                  go_roundg f
                  case measure => omega
                  case rel => exact ⟨c + 1, _, _, _, max z (m : Int), by omega, by go_num, rfl, rfl, rfl, (by congr 1; omega), HS2.out⟩
          · have HM := Lib.hid (hcp.out.symm.trans (cpl_stop s i nm _ m (fun hh => hm2 hh.2.1)))
            have hm2' : (s.size : Int) ≤ (i : Int) + (m : Int) := by omega
            have hm2'' : decide ((i : Int) + (m : Int) < (s.size : Int)) = false := by simpa using hm2'
            clear t1 hm2
            by_cases hfull : m = nm.size
            · have e1 : ((m : Int) == (nm.size : Int)) = true := by rw [hfull]; simp
              by_cases hmore : y < (m : Int)
              · have HS2 := Lib.hid (show codeTo s i (c + 1) = ((c : Int), (m : Int), max z (m : Int)) by rw [HST.out, codeStep, if_pos ⟨by rw [HM.out, hfull], by rw [HM.out]; exact hmore⟩, HM.out])
                clear hfull
                have g2 : (0 : Int) ≤ (i : Int) + (m : Int) := by omega
                have g3 : ((i : Int) + (m : Int)).toNat = i + m := by omega
                have g1 : IntKind.i64.wrap ((i : Int) + (m : Int)) = (i : Int) + (m : Int) := IntWalk.i64_in _ ⟨by omega, by omega⟩
                go_wp2
                go_quiet (fail)
                clear g1
                go_wp2
                all_goals
                  go_roundg f
                  case measure => omega
                  case rel => exact ⟨c + 1, _, _, _, max z (m : Int), by omega, by go_num, rfl, rfl, rfl, (by congr 1; omega), HS2.out⟩
              · have hmore' : (m : Int) ≤ y := by omega
                have HS2 := Lib.hid (show codeTo s i (c + 1) = (x, y, max z (m : Int)) by rw [HST.out, codeStep, if_neg (by rw [HM.out]; simp only; omega), HM.out])
                clear hmore hfull
                have g2 : (0 : Int) ≤ (i : Int) + (m : Int) := by omega
                have g3 : ((i : Int) + (m : Int)).toNat = i + m := by omega
                have g1 : IntKind.i64.wrap ((i : Int) + (m : Int)) = (i : Int) + (m : Int) := IntWalk.i64_in _ ⟨by omega, by omega⟩
                go_wp2
                go_quiet (fail)
                clear g1
                go_wp2
                all_goals
                  go_roundg f
                  case measure => omega
                  case rel => exact ⟨c + 1, _, _, _, max z (m : Int), by omega, by go_num, rfl, rfl, rfl, (by congr 1; omega), HS2.out⟩
            · have e1 : ((m : Int) == (nm.size : Int)) = false := by rw [beq_eq_false_iff_ne]; omega
              have HS2 := Lib.hid (show codeTo s i (c + 1) = (x, y, max z (m : Int)) by rw [HST.out, codeStep, if_neg (by rw [HM.out]; omega), HM.out])
              clear hfull
              have g2 : (0 : Int) ≤ (i : Int) + (m : Int) := by omega
              have g3 : ((i : Int) + (m : Int)).toNat = i + m := by omega
              have g1 : IntKind.i64.wrap ((i : Int) + (m : Int)) = (i : Int) + (m : Int) := IntWalk.i64_in _ ⟨by omega, by omega⟩
              go_wp2
              go_quiet (fail)
              clear g1
              go_wp2
              all_goals
                go_roundg f
                case measure => omega
                case rel => exact ⟨c + 1, _, _, _, max z (m : Int), by omega, by go_num, rfl, rfl, rfl, (by congr 1; omega), HS2.out⟩
        · have HM := Lib.hid (hcp.out.symm.trans (cpl_stop s i nm _ m (fun hh => hm1 hh.1)))
          have t1 : decide (m < nm.size) = false := by simpa using hm1
          have hm1' : (nm.size : Int) ≤ (m : Int) := by omega
          clear hm1
          by_cases hfull : m = nm.size
          · have e1 : ((m : Int) == (nm.size : Int)) = true := by rw [hfull]; simp
            by_cases hmore : y < (m : Int)
            · have HS2 := Lib.hid (show codeTo s i (c + 1) = ((c : Int), (m : Int), max z (m : Int)) by rw [HST.out, codeStep, if_pos ⟨by rw [HM.out, hfull], by rw [HM.out]; exact hmore⟩, HM.out])
              clear hfull
              go_wp2
              go_quiet (fail)
              go_wp2
              all_goals
                go_roundg f
                case measure => omega
                case rel => exact ⟨c + 1, _, _, _, max z (m : Int), by omega, by go_num, rfl, rfl, rfl, (by congr 1; omega), HS2.out⟩
            · have hmore' : (m : Int) ≤ y := by omega
              have HS2 := Lib.hid (show codeTo s i (c + 1) = (x, y, max z (m : Int)) by rw [HST.out, codeStep, if_neg (by rw [HM.out]; simp only; omega), HM.out])
              clear hmore hfull
              go_wp2
              go_quiet (fail)
              go_wp2
              all_goals
                go_roundg f
                case measure => omega
                case rel => exact ⟨c + 1, _, _, _, max z (m : Int), by omega, by go_num, rfl, rfl, rfl, (by congr 1; omega), HS2.out⟩
          · have e1 : ((m : Int) == (nm.size : Int)) = false := by rw [beq_eq_false_iff_ne]; omega
            have HS2 := Lib.hid (show codeTo s i (c + 1) = (x, y, max z (m : Int)) by rw [HST.out, codeStep, if_neg (by rw [HM.out]; omega), HM.out])
            clear hfull
            go_wp2
            go_quiet (fail)
            go_wp2
            all_goals
              go_roundg f
              case measure => omega
              case rel => exact ⟨c + 1, _, _, _, max z (m : Int), by omega, by go_num, rfl, rfl, rfl, (by congr 1; omega), HS2.out⟩
    · have hc15 : c = 15 := by omega
      subst hc15
      have HSP := Lib.hid (show codeSp s i = if y < 0 then (i + z.toNat, false, x) else (i + y.toNat, true, x) by unfold codeSp; rw [hct.out])
      obtain ⟨z', rfl⟩ := Int.eq_ofNat_of_zero_le z1
      by_cases hy : y < 0
      · rw [if_pos hy, Int.toNat_natCast] at HSP
        go_wp2
        go_ret
        rw [HSP.out]
        exact ⟨ret_int rfl, ((HR1.out.drewN n).set2 false).set1 (i + z')⟩
      · rw [if_neg hy] at HSP
        have hy' : 0 ≤ y := by omega
        obtain ⟨y', rfl⟩ := Int.eq_ofNat_of_zero_le hy'
        rw [Int.toNat_natCast] at HSP
        clear hy
        go_wp2
        go_ret
        rw [HSP.out]
        exact ⟨ret_int rfl, (HR1.out.drewN n).set1 (i + y')⟩
end Go.Proofs.YtjibjgokloondaaGreatDoor
namespace Go.Proofs.YtjibjgokloondaaGreatDoor
open Go.RowKit Go.Lib

def val1 (k n : Int) (s : ByteArray) (sub : VL) : VL := .cons k n s sub .nil

mutual
/-- A value at a place: the place behind it, whether all is right, the value. -/
def valSp (s : ByteArray) : Nat → Nat → Nat × Bool × VL
  | 0, i => (i, false, .nil)
  | f + 1, i =>
    if pk s i = 35 then ((numSp s (-2147483648) 2147483647 (i + 1)).1, (numSp s (-2147483648) 2147483647 (i + 1)).2.1, val1 1 (numSp s (-2147483648) 2147483647 (i + 1)).2.2 ByteArray.empty .nil)
    else if pk s i = 45 ∨ digB (pk s i) = true then ((numSp s (-9223372036854775808) 9223372036854775807 i).1, (numSp s (-9223372036854775808) 9223372036854775807 i).2.1, val1 0 (numSp s (-9223372036854775808) 9223372036854775807 i).2.2 ByteArray.empty .nil)
    else if pk s i = 34 then ((strSp s i).1, (strSp s i).2.1, val1 2 0 ⟨(strSp s i).2.2.toArray⟩ .nil)
    else if pk s i = 123 then
      if pk s (i + 1) = 125 then (i + 2, true, val1 4 0 ByteArray.empty .nil)
      else ((lstSp s f (i + 1) .nil).1, (lstSp s f (i + 1) .nil).2.1, val1 4 0 ByteArray.empty (lstSp s f (i + 1) .nil).2.2)
    else ((codeSp s i).1, (codeSp s i).2.1, val1 3 (codeSp s i).2.2 ByteArray.empty .nil)
/-- The items of a list, from one of them on. -/
def lstSp (s : ByteArray) : Nat → Nat → VL → Nat × Bool × VL
  | 0, i, acc => (i, false, acc)
  | f + 1, i, acc =>
    if (valSp s f i).2.1 = false then ((valSp s f i).1, false, acc)
    else if pk s (valSp s f i).1 = 44 then
      if pk s ((valSp s f i).1 + 1) = 32 then lstSp s f ((valSp s f i).1 + 2) (acc.app (valSp s f i).2.2)
      else ((valSp s f i).1 + 1, false, acc.app (valSp s f i).2.2)
    else if pk s (valSp s f i).1 = 125 then ((valSp s f i).1 + 1, true, acc.app (valSp s f i).2.2)
    else ((valSp s f i).1, false, acc.app (valSp s f i).2.2)
end

theorem numLoop_place (s : ByteArray) (low high : Int) (neg : Bool) : ∀ (f i : Nat) (n : Int), i ≤ s.size → i ≤ (numLoop s low high neg f i n).1 ∧ (numLoop s low high neg f i n).1 ≤ s.size
  | 0, i, n, h => ⟨Nat.le_refl _, h⟩
  | f + 1, i, n, h => by
    cases hd : digB (pk s i) with
    | false => rw [numLoop_end _ _ _ _ _ _ _ hd]; exact ⟨Nat.le_refl _, h⟩
    | true =>
      have hi := digB_in hd
      by_cases hg : n < -922337203685477580 ∨ 10 * n < -9223372036854775808 + ((pk s i).toNat - 48 : Int) ∨ (neg = true ∧ 10 * n - ((pk s i).toNat - 48 : Int) < low) ∨ (neg = false ∧ 10 * n - ((pk s i).toNat - 48 : Int) < -high)
      · rw [numLoop_bad _ _ _ _ _ _ _ hd hg]; exact ⟨Nat.le_refl _, h⟩
      · rw [numLoop_step _ _ _ _ _ _ _ hd hg]
        have := numLoop_place s low high neg f (i + 1) (10 * n - ((pk s i).toNat - 48 : Int)) (by omega)
        omega

theorem numSp_place (s : ByteArray) (low high : Int) (i : Nat) (h : i ≤ s.size) : i ≤ (numSp s low high i).1 ∧ (numSp s low high i).1 ≤ s.size := by
  unfold numSp
  split
  · rename_i h45
    have hi : i < s.size := pk_lt (by rw [h45]; decide)
    split
    · simp only; omega
    · have := numLoop_place s low high true (s.size + 1) (i + 1) 0 (by omega)
      omega
  · split
    · rename_i h48
      have hi : i < s.size := pk_lt (by rw [h48]; decide)
      simp only; omega
    · split
      · exact ⟨Nat.le_refl _, h⟩
      · exact numLoop_place s low high false (s.size + 1) i 0 h

theorem strLoop_place (s : ByteArray) : ∀ (f i : Nat) (l : List UInt8), i ≤ s.size → i ≤ (strLoop s f i l).1 ∧ (strLoop s f i l).1 ≤ s.size ∧ (0 < f → s.size < i + f → (strLoop s f i l).2.1 = true → pk s (strLoop s f i l).1 = 34)
  | 0, i, l, h => ⟨Nat.le_refl _, h, fun h0 => absurd h0 (by omega)⟩
  | f + 1, i, l, h => by
    by_cases h34 : pk s i = 34
    · rw [strLoop_end _ _ _ _ h34]; exact ⟨Nat.le_refl _, h, fun _ _ _ => h34⟩
    by_cases h92 : pk s i = 92
    · have hi : i < s.size := pk_lt (by rw [h92]; decide)
      by_cases hy : pk s (i + 1) = 34 ∨ pk s (i + 1) = 92
      · rw [strLoop_esc _ _ _ _ h92 hy]
        have hi2 : i + 1 < s.size := pk_lt (by rcases hy with e | e <;> rw [e] <;> decide)
        have := strLoop_place s f (i + 2) (l ++ [pk s (i + 1)]) (by omega)
        exact ⟨by omega, this.2.1, fun _ hb hc => this.2.2 (by omega) (by omega) hc⟩
      · rw [strLoop_esc_bad _ _ _ _ h92 hy]; exact ⟨by simp, by simp only; omega, fun _ _ hc => by cases hc⟩
    cases hp : prC (pk s i) with
    | false => rw [strLoop_bad _ _ _ _ h34 h92 hp]; exact ⟨Nat.le_refl _, h, fun _ _ hc => by cases hc⟩
    | true =>
      have hi : i < s.size := pk_lt (fun e => by rw [e] at hp; exact absurd hp (by decide))
      rw [strLoop_next _ _ _ _ h34 h92 hp]
      have := strLoop_place s f (i + 1) (l ++ [pk s i]) (by omega)
      exact ⟨by omega, this.2.1, fun _ hb hc => this.2.2 (by omega) (by omega) hc⟩

theorem strSp_place (s : ByteArray) (i : Nat) (h : i < s.size) : i ≤ (strSp s i).1 ∧ (strSp s i).1 ≤ s.size := by
  have := strLoop_place s (s.size + 1) (i + 1) [] (by omega)
  unfold strSp
  simp only
  split
  · rename_i hok
    have h34 := this.2.2 (by omega) (by omega) hok
    have := pk_lt (s := s) (i := (strLoop s (s.size + 1) (i + 1) []).1) (by rw [h34]; decide)
    omega
  · omega

theorem cpl_room (s : ByteArray) (i : Nat) (n : ByteArray) : ∀ (f k : Nat), i + k ≤ s.size → i + cpl s i n f k ≤ s.size
  | 0, k, h => h
  | f + 1, k, h => by
    unfold cpl
    split
    · rename_i hc
      exact cpl_room s i n f (k + 1) (by omega)
    · exact h

theorem codeTo_room (s : ByteArray) (i : Nat) (h : i ≤ s.size) : ∀ c, (i : Int) + (codeTo s i c).2.1 ≤ s.size ∧ (i : Int) + (codeTo s i c).2.2 ≤ s.size
  | 0 => by simp [codeTo]; omega
  | c + 1 => by
    obtain ⟨h1, h2⟩ := codeTo_room s i h c
    have h3 := cpl_room s i (nmL.getD c ByteArray.empty) ((nmL.getD c ByteArray.empty).size + 1) 0 (by omega)
    have h4 : i + cp s i (nmL.getD c ByteArray.empty) ≤ s.size := h3
    rw [codeTo, codeStep]
    split <;> simp only <;> omega

theorem codeSp_place (s : ByteArray) (i : Nat) (h : i ≤ s.size) : i ≤ (codeSp s i).1 ∧ (codeSp s i).1 ≤ s.size := by
  have h1 := codeTo_room s i h 15
  have h2 := codeTo_range s i 15 (Nat.le_refl _)
  unfold codeSp
  simp only
  split
  · simp only; omega
  · simp only; omega

mutual
theorem valSp_place (s : ByteArray) : ∀ (f i : Nat), i ≤ s.size → i ≤ (valSp s f i).1 ∧ (valSp s f i).1 ≤ s.size
  | 0, i, h => by rw [valSp]; exact ⟨Nat.le_refl _, h⟩
  | f + 1, i, h => by
    rw [valSp]
    split
    · rename_i e
      have hi : i < s.size := pk_lt (by rw [e]; decide)
      have := numSp_place s (-2147483648) 2147483647 (i + 1) (by omega)
      simp only; omega
    · split
      · exact numSp_place s _ _ i h
      · split
        · rename_i e
          exact strSp_place s i (pk_lt (by rw [e]; decide))
        · split
          · rename_i e
            have hi : i < s.size := pk_lt (by rw [e]; decide)
            split
            · rename_i e2
              have hi2 : i + 1 < s.size := pk_lt (by rw [e2]; decide)
              simp only; omega
            · have := lstSp_place s f (i + 1) .nil (by omega)
              simp only; omega
          · exact codeSp_place s i h
theorem lstSp_place (s : ByteArray) : ∀ (f i : Nat) (acc : VL), i ≤ s.size → i ≤ (lstSp s f i acc).1 ∧ (lstSp s f i acc).1 ≤ s.size
  | 0, i, acc, h => by rw [lstSp]; exact ⟨Nat.le_refl _, h⟩
  | f + 1, i, acc, h => by
    have hv := valSp_place s f i h
    rw [lstSp]
    split
    · exact hv
    · split
      · rename_i e
        have hi : (valSp s f i).1 < s.size := pk_lt (by rw [e]; decide)
        split
        · rename_i e2
          have hi2 : (valSp s f i).1 + 1 < s.size := pk_lt (by rw [e2]; decide)
          have := lstSp_place s f ((valSp s f i).1 + 2) (acc.app (valSp s f i).2.2) (by omega)
          omega
        · simp only; omega
      · split
        · rename_i e
          have hi : (valSp s f i).1 < s.size := pk_lt (by rw [e]; decide)
          simp only; omega
        · exact hv
end

/-- One value comes out. -/
theorem valSp_one (s : ByteArray) (f i : Nat) (h : (valSp s f i).2.1 = true) : ∃ k n t sub, (valSp s f i).2.2 = val1 k n t sub := by
  cases f with
  | zero => rw [valSp] at h; cases h
  | succ f =>
    rw [valSp] at h ⊢
    split
    · exact ⟨_, _, _, _, rfl⟩
    · split
      · exact ⟨_, _, _, _, rfl⟩
      · split
        · exact ⟨_, _, _, _, rfl⟩
        · split
          · split <;> exact ⟨_, _, _, _, rfl⟩
          · exact ⟨_, _, _, _, rfl⟩
end Go.Proofs.YtjibjgokloondaaGreatDoor
namespace Go.Proofs.YtjibjgokloondaaGreatDoor
open Go.RowKit Go.Lib

/-- The cells of a list of values, their items in memory. -/
def CellsOf (w : World) (S : Nat → Prop) : VL → List Value → Prop
  | .nil, xs => xs = []
  | .cons k n s sub rest, xs => ∃ (sa : Option Addr) (sc : Nat) (ys : List Value), xs = .int .i64 k :: .int .i64 n :: .string s :: .slice sa sub.len sc :: ys ∧ sub.len ≤ sc ∧ RpL w S sub sa ∧ CellsOf w S rest ys

theorem CellsOf.keep {w w' : World} {S S' : Nat → Prop} (hw : ∀ b, S b → w'.heap[b]? = w.heap[b]?) (hS : ∀ b, S b → S' b) : ∀ (l : VL) (xs : List Value), CellsOf w S l xs → CellsOf w' S' l xs
  | .nil, _, h => h
  | .cons _ _ _ sub rest, _, ⟨sa, sc, ys, hx, hc, hs, hr⟩ => ⟨sa, sc, ys, hx, hc, RpL.keep hw hS sub sa hs, CellsOf.keep hw hS rest ys hr⟩
theorem CellsOf.length {w : World} {S : Nat → Prop} : ∀ (l : VL) (xs : List Value), CellsOf w S l xs → xs.length = l.len * 4
  | .nil, _, h => by have : _ = [] := h; subst this; rfl
  | .cons _ _ _ sub rest, _, ⟨sa, sc, ys, hx, hc, hs, hr⟩ => by
    subst hx
    have := CellsOf.length rest ys hr
    simp only [List.length_cons, VL.len]; omega
theorem CellsOf.one {w : World} {S : Nat → Prop} : ∀ (l : VL) (xs : List Value), CellsOf w S l xs → ∀ u ∈ xs, u.oneCell' = true
  | .nil, _, h => by have : _ = [] := h; subst this; simp
  | .cons _ _ _ sub rest, _, ⟨sa, sc, ys, hx, hc, hs, hr⟩ => by
    subst hx
    intro u hu
    simp only [List.mem_cons] at hu
    rcases hu with rfl | rfl | rfl | rfl | hu
    · rfl
    · rfl
    · rfl
    · rfl
    · exact CellsOf.one rest ys hr u hu
theorem CellsOf.app {w : World} {S : Nat → Prop} : ∀ (l m : VL) (xs ys : List Value), CellsOf w S l xs → CellsOf w S m ys → CellsOf w S (l.app m) (xs ++ ys)
  | .nil, m, xs, ys, h, h2 => by have : xs = [] := h; subst this; exact h2
  | .cons _ _ _ sub rest, m, _, ys, ⟨sa, sc, zs, hx, hc, hs, hr⟩, h2 => by
    subst hx
    exact ⟨sa, sc, zs ++ ys, rfl, hc, hs, CellsOf.app rest m zs ys hr h2⟩
/-- Such cells, laid in a block of the sort, are the list in memory. -/
theorem CellsOf.rep {w : World} {S : Nat → Prop} {g : Nat} (hg : S g) : ∀ (l : VL) (xs : List Value) (o : Nat), CellsOf w S l xs → (∀ j u, xs[j]? = some u → w.cell? ⟨g, o + j, none⟩ = some u) → RpL w S l (some ⟨g, o, none⟩)
  | .nil, _, _, _, _ => trivial
  | .cons k n s sub rest, _, o, ⟨sa, sc, ys, hx, hc, hs, hr⟩, hcell => by
    subst hx
    exact ⟨g, o, sa, sc, rfl, hg, hcell 0 _ rfl, hcell 1 _ rfl, hcell 2 _ rfl, hcell 3 _ rfl, hc, hs,
      CellsOf.rep hg rest ys (o + 4) hr (fun j u hj => by rw [show o + 4 + j = o + (j + 4) from by omega]; exact hcell (j + 4) u hj)⟩

/-- What a row that the call owns reads as. -/
theorem own_rep {w : World} {base : Nat} {v : Value} {l : VL} {xs : List Value} {S : Nat → Prop} (h : w.ownsRow base 28 4 v l.len xs) (hc : CellsOf w S l xs) (hS : ∀ g, v.ownBlock = some g → S g) :
    ∃ (sa : Option Addr) (sc : Nat), v = .slice sa l.len sc ∧ l.len ≤ sc ∧ RpL w S l sa := by
  rcases h.2 with ⟨rfl, hl⟩ | ⟨g, cap, cur, rfl, _, hh, hcap, _, hsz, ht⟩
  · rw [hl]
    refine ⟨none, 0, rfl, Nat.le_refl _, ?_⟩
    cases l with
    | nil => trivial
    | cons => simp [VL.len] at hl
  · refine ⟨some ⟨g, 0, none⟩, cap, rfl, hcap, CellsOf.rep (hS g rfl) l xs 0 hc (fun j u hj => ?_)⟩
    rw [Nat.zero_add, cell_of_row w g j cur _ _ hh, ← Array.getElem?_toList]
    have hlen := CellsOf.length l xs hc
    have hjl : j < xs.length := (List.getElem?_eq_some_iff.1 hj).1
    rw [← ht, List.getElem?_take_of_lt (by omega)] at hj
    exact hj

/-- What a call of the reader's value is to show. -/
def PVal (w : World) (R : Nat) (s : ByteArray) (r : Nat × Bool × VL) (e : Ending) (w' : World) : Prop :=
  ∃ (k n : Int) (t : ByteArray) (sa : Option Addr) (l sc : Nat), e = .returned (.agg #[.int .i64 k, .int .i64 n, .string t, .slice sa l sc]) ∧ Rds w w' R s r.1 r.2.1 ∧
    (r.2.1 = true → ∃ sub : VL, r.2.2 = val1 k n t sub ∧ l = sub.len ∧ sub.len ≤ sc ∧ RpL w' (fun b => w.heap.size ≤ b ∧ b < w'.heap.size) sub sa)

def ValC (f : Nat) : Prop := ∀ (R : Nat) (s : ByteArray) (i : Nat) (w : World), RdAt w R s i true → s.size ≤ 1000000000 → i ≤ s.size → 2 * (s.size - i) + 2 ≤ f →
  Calls Tryz.prog 92 #[.pointer (some ⟨R, 0, none⟩)] w (PVal w R s (valSp s f i))

theorem valI_c (n : Int) (w : World) : Calls Tryz.prog 112 #[.int .i64 n] w fun e w' => e = .returned (.agg #[.int .i64 0, .int .i64 n, .string ⟨#[]⟩, .slice none 0 0]) ∧ w.alloc (.cells #[.int .i64 0, .int .i64 n, .string ⟨#[]⟩, .slice none 0 0] 28) = w' := by
  go_enter Tryz.func112, Tryz.ntmps112
  go_wp2
  go_returns
  exact ⟨rfl, rfl⟩
theorem valO_c (n : Int) (w : World) : Calls Tryz.prog 109 #[.int .i64 n] w fun e w' => e = .returned (.agg #[.int .i64 1, .int .i64 n, .string ⟨#[]⟩, .slice none 0 0]) ∧ w.alloc (.cells #[.int .i64 1, .int .i64 n, .string ⟨#[]⟩, .slice none 0 0] 28) = w' := by
  go_enter Tryz.func109, Tryz.ntmps109
  go_wp2
  go_returns
  exact ⟨rfl, rfl⟩
theorem valE_c (n : Int) (w : World) : Calls Tryz.prog 116 #[.int .i64 n] w fun e w' => e = .returned (.agg #[.int .i64 3, .int .i64 n, .string ⟨#[]⟩, .slice none 0 0]) ∧ w.alloc (.cells #[.int .i64 3, .int .i64 n, .string ⟨#[]⟩, .slice none 0 0] 28) = w' := by
  go_enter Tryz.func116, Tryz.ntmps116
  go_wp2
  go_returns
  exact ⟨rfl, rfl⟩
theorem valS_c (t : ByteArray) (w : World) : Calls Tryz.prog 113 #[.string t] w fun e w' => e = .returned (.agg #[.int .i64 2, .int .i64 0, .string t, .slice none 0 0]) ∧ w.alloc (.cells #[.int .i64 2, .int .i64 0, .string t, .slice none 0 0] 28) = w' := by
  go_enter Tryz.func113, Tryz.ntmps113
  go_wp2
  go_returns
  exact ⟨rfl, rfl⟩

/-- A struct of four cells in a block of its own. -/
def StB (w : World) (g : Nat) (a b c d : Value) : Prop := w.heap[g]? = some (.cells #[a, b, c, d] 28 (0, 0))
section
variable {w w' : World} {g : Nat} {a b c d : Value}
theorem StB.lt (h : StB w g a b c d) : g < w.heap.size := by
  rcases Nat.lt_or_ge g w.heap.size with hlt | hge
  · exact hlt
  · unfold StB at h; rw [Array.getElem?_eq_none hge] at h; cases h
theorem StB.c0 (h : StB w g a b c d) : w.cell? ⟨g, 0, none⟩ = some a := cell_of_row w g 0 _ _ _ h
theorem StB.c1 (h : StB w g a b c d) : w.cell? ⟨g, 1, none⟩ = some b := cell_of_row w g 1 _ _ _ h
theorem StB.c2 (h : StB w g a b c d) : w.cell? ⟨g, 2, none⟩ = some c := cell_of_row w g 2 _ _ _ h
theorem StB.c3 (h : StB w g a b c d) : w.cell? ⟨g, 3, none⟩ = some d := cell_of_row w g 3 _ _ _ h
theorem StB.fr (h : StB w g a b c d) (k : Nat) : w.frozen? ⟨g, k, none⟩ = false := by unfold StB at h; simp [World.frozen?, h]
theorem StB.new (w : World) (a b c d : Value) : StB (w.alloc (.cells #[a, b, c, d] 28)) w.heap.size a b c d := by
  unfold StB World.alloc; simp
theorem StB.alloc (h : StB w g a b c d) (o : Obj) : StB (w.alloc o) g a b c d := (Below.heap_alloc w o g h.lt).trans h
theorem StB.set3 (h : StB w g a b c d) (u : Value) : StB (w.setCell ⟨g, 3, none⟩ u) g a b c u := by
  unfold StB at h ⊢; simp [World.setCell, Array.getElem?_modify, h]
theorem StB.far (h : StB w g a b c d) {p : Addr} (hp : g ≠ p.block) (u : Value) : StB (w.setCell p u) g a b c d := (Below.heap_setCell w p u g hp).trans h
theorem StB.only (h : StB w g a b c d) {row : Option Nat} (hg : w.grownBy w' row) (hr : some g ≠ row) : StB w' g a b c d := (hg.block g h.lt hr).trans h
theorem StB.drewN (h : StB w g a b c d) (n : Nat) : StB (w.drewN n) g a b c d := h
end

theorem StB.set4 {w : World} {g : Nat} {a b c d : Value} (h : StB w g a b c d) (a' b' c' d' : Value) :
    StB ((((w.setCell ⟨g, 0, none⟩ a').setCell ⟨g, 1, none⟩ b').setCell ⟨g, 2, none⟩ c').setCell ⟨g, 3, none⟩ d') g a' b' c' d' := by
  unfold StB at h ⊢; simp [World.setCell, Array.getElem?_modify, h]

/-- A struct of four cells handed back out of its block. -/
theorem results_cell4 {fn : Func} {p : Tmp} (h : fn.results = #[.cell p 28]) (tmps : Array Value) (w : World) (g : Nat) (hp : tmps.getD p undef = .pointer (some ⟨g, 0, none⟩)) {a b c d : Value} (hS : StB w g a b c d) :
    (results fn tmps).run Tryz.prog w = .ok (.agg #[a, b, c, d]) w := by
  have c0 := hS.c0
  have c1 := hS.c1
  have c2 := hS.c2
  have c3 := hS.c3
  have hp' : (tmps[p]?).getD undef = .pointer (some ⟨g, 0, none⟩) := by simpa using hp
  simp [results, h, hp', go_sem, c0, c1, c2, c3]
theorem ret_cell4 {fn : Func} {p : Tmp} {Q : Ending → World → Prop} {act : Act} {w : World} (h : fn.results = #[.cell p 28]) (g : Nat) (hp : act.tmps.getD p undef = .pointer (some ⟨g, 0, none⟩)) (hd : act.defers = [])
    {a b c d : Value} (hS : StB w g a b c d) (hQ : Q (.returned (.agg #[a, b, c, d])) w) : bodyPost Tryz.prog fn Q .ret act w :=
  bodyPost_ret (results_cell4 h act.tmps w g hp hS) hd hQ

theorem val_info : (Tryz.prog.info? 28).map (fun i => (i.zero, i.size, i.bytes)) = some (some (.agg #[.int .i64 0, .int .i64 0, .string ⟨#[]⟩, .slice none 0 0]), 4, 56) := by kernel_rfl

theorem Rds.far {w1 w2 : World} {R : Nat} {s : ByteArray} {i : Nat} {ok : Bool} (h : Rds w1 w2 R s i ok) {p : Addr} (hp : w1.heap.size ≤ p.block) (hR : R < w1.heap.size) (u : Value) : Rds w1 (w2.setCell p u) R s i ok :=
  ⟨(Below.heap_setCell w2 p u R (by omega)).trans h.at_, only_setCell h.grown (.inr hp) u⟩
theorem Rds.far4 {w1 w2 : World} {R : Nat} {s : ByteArray} {i : Nat} {ok : Bool} (h : Rds w1 w2 R s i ok) {g : Nat} (hp : w1.heap.size ≤ g) (hR : R < w1.heap.size) (a b c d : Value) :
    Rds w1 ((((w2.setCell ⟨g, 0, none⟩ a).setCell ⟨g, 1, none⟩ b).setCell ⟨g, 2, none⟩ c).setCell ⟨g, 3, none⟩ d) R s i ok :=
  (((h.far (p := ⟨g, 0, none⟩) hp hR a).far (p := ⟨g, 1, none⟩) hp hR b).far (p := ⟨g, 2, none⟩) hp hR c).far (p := ⟨g, 3, none⟩) hp hR d

/-- What the reader's list reads, at a place where a bracket opens. -/
def brSp (s : ByteArray) (f i : Nat) : Nat × Bool × VL :=
  if pk s (i + 1) = 125 then (i + 2, true, val1 4 0 ByteArray.empty .nil)
  else ((lstSp s f (i + 1) .nil).1, (lstSp s f (i + 1) .nil).2.1, val1 4 0 ByteArray.empty (lstSp s f (i + 1) .nil).2.2)

theorem own_form {W : World} {base e size n : Nat} {v : Value} {xs : List Value} (h : W.ownsRow base e size v n xs) : ∃ (A : Option Addr) (C : Nat), v = .slice A n C := by
  rcases h.2 with ⟨rfl, hn⟩ | ⟨g, cap, cur, rfl, _⟩
  · subst hn; exact ⟨none, 0, rfl⟩
  · exact ⟨some ⟨g, 0, none⟩, cap, rfl⟩

theorem heap_set4 (w : World) (g : Nat) (a b c d : Value) (k : Nat) (h : k ≠ g) : ((((w.setCell ⟨g, 0, none⟩ a).setCell ⟨g, 1, none⟩ b).setCell ⟨g, 2, none⟩ c).setCell ⟨g, 3, none⟩ d).heap[k]? = w.heap[k]? := by
  rw [Below.heap_setCell _ _ _ _ h, Below.heap_setCell _ _ _ _ h, Below.heap_setCell _ _ _ _ h, Below.heap_setCell _ _ _ _ h]
theorem size_set4 (w : World) (g : Nat) (a b c d : Value) : ((((w.setCell ⟨g, 0, none⟩ a).setCell ⟨g, 1, none⟩ b).setCell ⟨g, 2, none⟩ c).setCell ⟨g, 3, none⟩ d).heap.size = w.heap.size := by simp [World.setCell]

/-- What holds at the head of the list's loop. -/
structure LInv (w wr : World) (R : Nat) (s : ByteArray) (j : Nat) (V : Value) (acc : VL) (xs : List Value) : Prop where
  rds : Rds w wr R s j true
  b2 : StB wr w.heap.size (.int .i64 0) (.int .i64 0) (.string ⟨#[]⟩) (.slice none 0 0)
  b3 : StB wr (w.heap.size + 1) (.int .i64 4) (.int .i64 0) (.string ⟨#[]⟩) V
  own : wr.ownsRow (w.heap.size + 2) 28 4 V acc.len xs
  cells : CellsOf wr (fun b => w.heap.size + 2 ≤ b ∧ b < wr.heap.size ∧ V.ownBlock ≠ some b) acc xs
  size : w.heap.size + 2 ≤ wr.heap.size

theorem own_lt {W : World} {base e size n : Nat} {v : Value} {xs : List Value} (h : W.ownsRow base e size v n xs) (k : Nat) (hk : v.ownBlock = some k) : k < W.heap.size := by
  rcases h.2 with ⟨rfl, _⟩ | ⟨g, cap, cur, rfl, hb, hh, _⟩
  · cases hk
  · injection hk with hk
    subst hk
    rcases Nat.lt_or_ge g W.heap.size with hlt | hge
    · exact hlt
    · rw [Array.getElem?_eq_none hge] at hh; cases hh

theorem LInv.move {w wr wr' : World} {R : Nat} {s : ByteArray} {j j' : Nat} {V : Value} {acc : VL} {xs : List Value} (h : LInv w wr R s j V acc xs) {ok : Bool} (hr : Rds wr wr' R s j' ok) (hR : R < w.heap.size) :
    StB wr' w.heap.size (.int .i64 0) (.int .i64 0) (.string ⟨#[]⟩) (.slice none 0 0) ∧ StB wr' (w.heap.size + 1) (.int .i64 4) (.int .i64 0) (.string ⟨#[]⟩) V ∧ wr'.ownsRow (w.heap.size + 2) 28 4 V acc.len xs ∧
      CellsOf wr' (fun b => w.heap.size + 2 ≤ b ∧ b < wr'.heap.size ∧ V.ownBlock ≠ some b) acc xs ∧ w.heap.size + 2 ≤ wr'.heap.size :=
  ⟨h.b2.only hr.grown (fun e => by injection e with e; omega), h.b3.only hr.grown (fun e => by injection e with e; omega), own_keep h.own hr.grown (by omega),
   h.cells.keep (fun b hb => hr.grown.block b hb.2.1 (fun e => by injection e with e; omega)) (fun b hb => ⟨hb.1, Nat.lt_of_lt_of_le hb.2.1 hr.grown.size, hb.2.2⟩), Nat.le_trans h.size hr.grown.size⟩
theorem LInv.ok {w wr wr' : World} {R : Nat} {s : ByteArray} {j j' : Nat} {V : Value} {acc : VL} {xs : List Value} (h : LInv w wr R s j V acc xs) (hr : Rds wr wr' R s j' true) (hR : R < w.heap.size) : LInv w wr' R s j' V acc xs :=
  ⟨h.rds.trans hr, (h.move hr hR).1, (h.move hr hR).2.1, (h.move hr hR).2.2.1, (h.move hr hR).2.2.2.1, (h.move hr hR).2.2.2.2⟩

theorem cell_four_new (w : World) (B : Nat) (hB : B = w.heap.size) (a b c d : Value) (t : TypeId) : ∀ j u, [a, b, c, d][j]? = some u → (w.alloc (.cells #[a, b, c, d] t)).cell? ((⟨B, 0, none⟩ : Addr).add j) = some u := by
  subst hB
  intro j u hj
  have e : (⟨w.heap.size, 0, none⟩ : Addr).add j = ⟨w.heap.size, j, none⟩ := by unfold Addr.add; split <;> simp_all
  rw [e, World.cell?_alloc_at _ _ _ _ rfl]
  simpa using hj

theorem LInv.grow {w wr w3 w5 : World} {R : Nat} {s : ByteArray} {j q : Nat} {V : Value} {acc : VL} {xs : List Value} (h : LInv w wr R s j V acc xs) (hr : Rds wr w3 R s q true) (hR : R < w.heap.size) {o1 o2 : Obj}
    (hg : ((w3.alloc o1).alloc o2).grownBy w5 V.ownBlock) : StB w5 (w.heap.size + 1) (.int .i64 4) (.int .i64 0) (.string ⟨#[]⟩) V := by
  obtain ⟨_, m3, _, _, _⟩ := h.move hr hR
  have hlt := m3.lt
  have hsz : ((w3.alloc o1).alloc o2).heap.size = w3.heap.size + 2 := by simp
  have h1 := hg.block (w.heap.size + 1) (by omega) (fun e => by have := own_ge h.own _ e.symm; omega)
  exact (h1.trans ((Below.heap_alloc _ _ _ (by simp; omega)).trans (Below.heap_alloc _ _ _ hlt))).trans m3

theorem LInv.step {w wr w3 w5 : World} {R : Nat} {s : ByteArray} {j q : Nat} {V V' : Value} {acc : VL} {xs : List Value} (h : LInv w wr R s j V acc xs) (hr : Rds wr w3 R s q true) (hR : R < w.heap.size)
    {k n : Int} {t : ByteArray} {sub : VL} {sa : Option Addr} {sc : Nat} (hsc : sub.len ≤ sc) (hrep : RpL w3 (fun b => wr.heap.size ≤ b ∧ b < w3.heap.size) sub sa) {o1 o2 : Obj}
    (hown : w5.ownsRow (w.heap.size + 2) 28 4 V' (acc.len + 1) (xs ++ [.int .i64 k, .int .i64 n, .string t, .slice sa sub.len sc])) (hg : ((w3.alloc o1).alloc o2).grownBy w5 V.ownBlock)
    (hob : V'.ownBlock = V.ownBlock ∨ V'.ownBlock = some ((w3.alloc o1).alloc o2).heap.size) :
    LInv w (w5.setCell ⟨w.heap.size + 1, 3, none⟩ V') R s q V' (acc.app (val1 k n t sub)) (xs ++ [.int .i64 k, .int .i64 n, .string t, .slice sa sub.len sc]) := by
  obtain ⟨m2, m3, mo, mc, mz⟩ := h.move hr hR
  have hVg : ∀ g, V.ownBlock = some g → w.heap.size + 2 ≤ g ∧ g < wr.heap.size := fun g hg => ⟨own_ge h.own g hg, own_lt h.own g hg⟩
  have hsz : ((w3.alloc o1).alloc o2).heap.size = w3.heap.size + 2 := by simp
  have hz5 : w3.heap.size + 2 ≤ w5.heap.size := by have := hg.size; omega
  have hz3 := hr.grown.size
  have blk : ∀ b, b < w3.heap.size → V.ownBlock ≠ some b → w5.heap[b]? = w3.heap[b]? := fun b hb hne => by
    have h1 := hg.block b (by omega) (fun e => hne e.symm)
    rw [h1, Below.heap_alloc _ _ _ (by simp; omega), Below.heap_alloc _ _ _ hb]
  have hV'b : ∀ b, b < w3.heap.size → V.ownBlock ≠ some b → V'.ownBlock ≠ some b := fun b hb hne e => by
    rcases hob with e2 | e2
    · exact hne (e2.symm.trans e)
    · rw [e] at e2
      injection e2 with e2
      omega
  have hb2ne : V.ownBlock ≠ some w.heap.size := fun e => by have := (hVg _ e).1; omega
  have hb3ne : V.ownBlock ≠ some (w.heap.size + 1) := fun e => by have := (hVg _ e).1; omega
  have hRne : V.ownBlock ≠ some R := fun e => by have := (hVg _ e).1; omega
  have hb2lt := m2.lt
  have hb3lt := m3.lt
  have s2 : StB w5 w.heap.size (.int .i64 0) (.int .i64 0) (.string ⟨#[]⟩) (.slice none 0 0) := (blk _ hb2lt hb2ne).trans m2
  have s3 : StB w5 (w.heap.size + 1) (.int .i64 4) (.int .i64 0) (.string ⟨#[]⟩) V := (blk _ hb3lt hb3ne).trans m3
  have r5 : Rds w w5 R s q true := Rds.append (((h.rds.trans hr).alloc o1).alloc o2) hg hR (fun k hk => by have := (hVg k hk).1; omega)
  have keepc : ∀ b, w.heap.size + 2 ≤ b → (w5.setCell ⟨w.heap.size + 1, 3, none⟩ V').heap[b]? = w5.heap[b]? := fun b hb => Below.heap_setCell _ _ _ _ (by show b ≠ w.heap.size + 1; omega)
  have hzs : (w5.setCell ⟨w.heap.size + 1, 3, none⟩ V').heap.size = w5.heap.size := by simp [World.setCell]
  refine ⟨r5.far (p := ⟨w.heap.size + 1, 3, none⟩) (by show w.heap.size ≤ w.heap.size + 1; omega) hR V', s2.far (p := ⟨w.heap.size + 1, 3, none⟩) (by show w.heap.size ≠ w.heap.size + 1; omega) V', s3.set3 V', ?_, ?_, ?_⟩
  · rw [VL.len_app]
    exact own_set hown (by omega) 3
  · refine CellsOf.app _ _ _ _ ?_ ⟨sa, sc, [], rfl, hsc, ?_, rfl⟩
    · refine mc.keep (fun b hb => ?_) (fun b hb => ⟨hb.1, by rw [hzs]; have := hb.2.1; omega, hV'b b hb.2.1 hb.2.2⟩)
      rw [keepc b hb.1, blk b hb.2.1 hb.2.2]
    · have hne : ∀ b, wr.heap.size ≤ b → V.ownBlock ≠ some b := fun b hb e => by have := (hVg b e).2; omega
      have hsz0 := h.size
      refine hrep.keep (fun b hb => ?_) (fun b hb => ⟨by have := hb.1; omega, by rw [hzs]; have := hb.2; omega, hV'b b hb.2 (hne b hb.1)⟩)
      rw [keepc b (by have := hb.1; omega), blk b hb.2 (hne b hb.1)]
  · rw [hzs]; omega

end Go.Proofs.YtjibjgokloondaaGreatDoor
namespace Go.Proofs.YtjibjgokloondaaGreatDoor
open Go.RowKit Go.Lib

set_option maxRecDepth 100000 in
set_option maxHeartbeats 2000000 in
theorem list_c (f : Nat) (ih : ∀ f', f' < f → ValC f') (R : Nat) (s : ByteArray) (i : Nat) (w : World) (h : RdAt w R s i true) (hs : s.size ≤ 1000000000) (hq : pk s i = 123) (hf : 2 * (s.size - i) + 1 ≤ f) :
    Calls Tryz.prog 115 #[.pointer (some ⟨R, 0, none⟩)] w (PVal w R s (brSp s f i)) := by
  obtain ⟨i0, hi0, hz0, hz1, hz2⟩ := info_parts val_info
  have hi : i < s.size := pk_lt (by rw [hq]; decide)
  have hRl := h.lt
  have tk := fun W hW => take_c R s i true 123 W hW hs
  have e1 : tkOk s i true 123 = true := by simp [tkOk, hi, hq]
  have e2 : tkAt s i true 123 = i + 1 := by unfold tkAt; rw [e1]; rfl
  rw [e1, e2] at tk
  have TK := Lib.hid tk
  have pk1 := Lib.hid (fun W hW => peek_c R s (i + 1) true W hW)
  have IH := Lib.hid ih
  clear tk e1 e2 hq ih
  obtain ⟨wa, hwa⟩ : ∃ wa, wa = (w.alloc (.cells #[.int .i64 0, .int .i64 0, .string ⟨#[]⟩, .slice none 0 0] 28)).alloc (.cells #[.int .i64 4, .int .i64 0, .string ⟨#[]⟩, .slice none 0 0] 28) := ⟨_, rfl⟩
  have hra : Rds w wa R s i true := by rw [hwa]; exact ((Rds.of h).alloc _).alloc _
  have hb2 : StB wa w.heap.size (.int .i64 0) (.int .i64 0) (.string ⟨#[]⟩) (.slice none 0 0) := by rw [hwa]; exact (StB.new w _ _ _ _).alloc _
  have hb3 : StB wa (w.heap.size + 1) (.int .i64 4) (.int .i64 0) (.string ⟨#[]⟩) (.slice none 0 0) := by rw [hwa]; have := StB.new (w.alloc (.cells #[.int .i64 0, .int .i64 0, .string ⟨#[]⟩, .slice none 0 0] 28)) (.int .i64 4) (.int .i64 0) (.string ⟨#[]⟩) (.slice none 0 0); simpa using this
  have HA := Lib.hid hra
  have HB2 := Lib.hid hb2
  have HB3 := Lib.hid hb3
  have hza : wa.heap.size = w.heap.size + 2 := by rw [hwa]; simp
  have HZA := Lib.hid hza
  clear hra hb2 hb3 hza
  go_enter Tryz.func115, Tryz.ntmps115
  go_wp2_with fail
  rw [← hwa]
  refine (TK.out _ HA.out.at_).mono ?_
  rintro e w1 ⟨rfl, hr1⟩
  have gb1 : some w.heap.size ≠ some R := fun e => by injection e with e; omega
  have gb2 : some (w.heap.size + 1) ≠ some R := fun e => by injection e with e; omega
  have hb2 := HB2.out.only hr1.grown gb1
  have hb3 := HB3.out.only hr1.grown gb2
  have HR1 := Lib.hid (HA.out.trans hr1)
  have hz1 : w.heap.size + 2 ≤ w1.heap.size := by have := hr1.grown.size; have := HZA.out; omega
  clear hr1
  by_cases hq : pk s (i + 1) = 125
  · have HSP := Lib.hid (show brSp s f i = (i + 2, true, val1 4 0 ByteArray.empty .nil) by unfold brSp; rw [if_pos hq])
    have hi2 : i + 1 < s.size := pk_lt (by rw [hq]; decide)
    have PK := Lib.hid (show ∀ W, RdAt W R s (i + 1) true → Calls Tryz.prog 108 #[.pointer (some ⟨R, 0, none⟩)] W fun e w' => e = .returned (.int .u8 125) ∧ ∃ n, w' = W.drewN n from fun W hW => by
      have := pk1.out W hW
      rw [hq] at this
      exact this)
    have tk := fun W hW => take_c R s (i + 1) true 125 W hW hs
    have e1 : tkOk s (i + 1) true 125 = true := by simp [tkOk, hi2, hq]
    have e2 : tkAt s (i + 1) true 125 = i + 2 := by unfold tkAt; rw [e1]; rfl
    rw [e1, e2] at tk
    have TK2 := Lib.hid tk
    clear tk e1 e2 hq pk1
    go_wp2_with fail
    refine (PK.out _ HR1.out.at_).mono ?_
    rintro e w2 ⟨rfl, n2, rfl⟩
    go_wp2_with fail
    refine (TK2.out _ (HR1.out.at_.drewN n2)).mono ?_
    rintro e w3 ⟨rfl, hr3⟩
    have hc2 := (hb2.drewN n2).only hr3.grown gb1
    have hc3 := (hb3.drewN n2).only hr3.grown gb2
    have k20 := hc2.c0; have k21 := hc2.c1; have k22 := hc2.c2; have k23 := hc2.c3
    have k30 := hc3.c0; have k31 := hc3.c1; have k32 := hc3.c2; have k33 := hc3.c3
    have m20 := hc2.fr 0; have m21 := hc2.fr 1; have m22 := hc2.fr 2; have m23 := hc2.fr 3
    have HR3 := Lib.hid (Rds.trans (HR1.out.drewN n2) hr3)
    clear hr3 hb2 hb3
    go_wp2_with fail
    refine ret_cell4 Tryz.results115 w.heap.size rfl rfl (hc2.set4 _ _ _ _) ?_
    rw [HSP.out]
    exact ⟨4, 0, ⟨#[]⟩, none, 0, 0, rfl, HR3.out.far4 (Nat.le_refl _) hRl _ _ _ _, fun _ => ⟨.nil, rfl, rfl, Nat.le_refl _, trivial⟩⟩
  · have HSP := Lib.hid (show brSp s f i = ((lstSp s f (i + 1) .nil).1, (lstSp s f (i + 1) .nil).2.1, val1 4 0 ByteArray.empty (lstSp s f (i + 1) .nil).2.2) by unfold brSp; rw [if_neg hq])
    have nq := ne_byte (x := pk s (i + 1)) 125 125 rfl hq
    obtain ⟨c1, hc1⟩ : ∃ c : Nat, c = (pk s (i + 1)).toNat := ⟨_, rfl⟩
    rw [← hc1] at nq pk1
    obtain ⟨nq1, nq2⟩ := nq
    clear hq hc1
    go_wp2_with fail
    refine (pk1.out _ HR1.out.at_).mono ?_
    rintro e w2 ⟨rfl, n2, rfl⟩
    have HR2 := Lib.hid (HR1.out.drewN n2)
    have HC2 := Lib.hid (hb2.drewN n2)
    have HC3 := Lib.hid (hb3.drewN n2)
    clear hb2 hb3
    obtain ⟨wL, hwL⟩ : ∃ wL, wL = w1.drewN n2 := ⟨_, rfl⟩
    have hzL : w.heap.size + 2 ≤ wL.heap.size := by rw [hwL]; exact hz1
    rw [← hwL] at HR2 HC2 HC3
    rw [← hwL]
    clear hwL hz1
    go_wp2_with fail
    have HL0 := Lib.hid (show LInv w wL R s (i + 1) (.slice none 0 0) .nil [] from ⟨HR2.out, HC2.out, HC3.out, World.ownsRow_nil _ _ _ _, rfl, hzL⟩)
    clear HR2 HC2 HC3 HR1 HA hwa HB2 HB3 TK pk1 nq1 nq2 gb1 gb2
    go_loopg [] f (fun k wr => ∃ (V : Value) (j : Nat) (acc : VL) (xs : List Value), LInv w wr R s j V acc xs ∧ j ≤ s.size ∧ 2 * (s.size - j) + 3 ≤ k ∧ k ≤ f ∧ acc.len ≤ j ∧ Hid (lstSp s k j acc = lstSp s f (i + 1) .nil))
    case atStart => exact ⟨.slice none 0 0, i + 1, .nil, [], HL0.out, by omega, by omega, Nat.le_refl _, Nat.zero_le _, rfl⟩
    case round =>
      obtain ⟨V, j, acc, xs, hli, hj, hk, hkf, hal, hqq⟩ := hrel
      obtain ⟨k, rfl⟩ : ∃ k, gk = k + 1 := ⟨gk - 1, by omega⟩
      have hrj := hli.rds.at_
      obtain ⟨VA, VC, rfl⟩ := own_form hli.own
      have LI := Lib.hid hli
      clear hli
      go_wp2_with fail
      refine (IH.out k (by omega) R s j wr hrj hs hj (by omega)).mono ?_
      rintro e w3 hpv
      obtain ⟨vk, vn, vt, va, vl, vc, rfl, hr3, hval⟩ := hpv
      have hpl := valSp_place s k j hj
      obtain ⟨q, okb, vv, hrr⟩ : ∃ q okb vv, valSp s k j = (q, okb, vv) := ⟨_, _, _, rfl⟩
      have HLS := Lib.hid (show lstSp s (k + 1) j acc = if okb = false then (q, false, acc) else if pk s q = 44 then if pk s (q + 1) = 32 then lstSp s k (q + 2) (acc.app vv) else (q + 1, false, acc.app vv) else if pk s q = 125 then (q + 1, true, acc.app vv) else (q, false, acc.app vv) by rw [lstSp, hrr])
      rw [hrr] at hr3 hval hpl
      simp only at hr3 hval hpl
      obtain ⟨hpl1, hpl2⟩ := hpl
      clear hrr
      have gR : R < w3.heap.size := hr3.at_.lt
      cases okb with
      | false =>
        have HLS2 := Lib.hid (HLS.out.trans (if_pos rfl))
        obtain ⟨m2, m3, mo, mc, mz⟩ := LI.out.move hr3 hRl
        have M2 := Lib.hid (m2.alloc (.cells #[.int .i64 vk, .int .i64 vn, .string vt, .slice va vl vc] 28))
        have M3 := Lib.hid (m3.alloc (.cells #[.int .i64 vk, .int .i64 vn, .string vt, .slice va vl vc] 28))
        have MR := Lib.hid ((LI.out.rds.trans hr3).alloc (.cells #[.int .i64 vk, .int .i64 vn, .string vt, .slice va vl vc] 28))
        have k20 := M2.out.c0; have k21 := M2.out.c1; have k22 := M2.out.c2; have k23 := M2.out.c3
        have k30 := M3.out.c0; have k31 := M3.out.c1; have k32 := M3.out.c2; have k33 := M3.out.c3
        have f20 := M2.out.fr 0; have f21 := M2.out.fr 1; have f22 := M2.out.fr 2; have f23 := M2.out.fr 3
        have kr := MR.out.at_.c2
        clear hval hr3 m2 m3 mo mc mz HLS
        go_wp2_with fail
        refine ret_cell4 Tryz.results115 w.heap.size rfl rfl (M2.out.set4 _ _ _ _) ?_
        rw [HSP.out, ← hqq.out, HLS2.out]
        exact ⟨4, 0, ⟨#[]⟩, VA, acc.len, VC, rfl, MR.out.far4 (Nat.le_refl _) hRl _ _ _ _, fun e => by cases e⟩
      | true =>
        have HLS2 := Lib.hid (HLS.out.trans (if_neg (by decide)))
        obtain ⟨sub, hvv, hvl, hsc, hrep⟩ := hval rfl
        subst hvl
        rw [hvv] at HLS2
        have RP := Lib.hid hrep
        have R3 := Lib.hid hr3
        obtain ⟨m2, m3, mo, mc, mz⟩ := LI.out.move hr3 hRl
        have M3 := Lib.hid (m3.alloc (.cells #[.int .i64 vk, .int .i64 vn, .string vt, .slice va sub.len vc] 28))
        have MR := Lib.hid ((LI.out.rds.trans hr3).alloc (.cells #[.int .i64 vk, .int .i64 vn, .string vt, .slice va sub.len vc] 28))
        have MO := Lib.hid mo
        have NX := StB.new w3 (.int .i64 vk) (.int .i64 vn) (.string vt) (.slice va sub.len vc)
        have k33 := M3.out.c3
        have n0 := NX.c0; have n1 := NX.c1; have n2' := NX.c2; have n3 := NX.c3
        have kr := MR.out.at_.c2
        clear hval hr3 m2 m3 mo mc HLS hvv hrep NX
        go_wp2_with (at_builtin; refine wpList_append_own_at _ rfl (.tmp 20) (.tmp 22) 26 rfl (w.heap.size + 2) 28 i0 _ 4 56 Tryz.underlying26 hi0 hz0 hz1 hz2 rfl (by decide) (.slice VA acc.len VC) acc.len xs rfl ((MO.out.alloc _).alloc _) ⟨w3.heap.size + 1, 0, none⟩ 1 1 [.int .i64 vk, .int .i64 vn, .string vt, .slice va sub.len vc] rfl rfl ?c1 ?c2 ?c3 ?c4 ?c5 ?_
                     case c1 => exact cell_four_new (w3.alloc _) _ (by simp) _ _ _ _ _
                     case c2 => intro u hu; simp at hu; rcases hu with rfl | rfl | rfl | rfl <;> rfl
                     case c3 => unfold maxLen; omega
                     case c4 => omega
                     case c5 => simp; omega
                     intro V' w5 hown' hgrow _ hob
                     obtain ⟨VA', VC', hV'⟩ := own_form hown'
                     rw [hV'] at hown' hob ⊢
                     have s5 := LInv.grow LI.out R3.out hRl hgrow
                     have s53 := s5.c3
                     have s5f := s5.fr 3
                     have ST := Lib.hid (LInv.step LI.out R3.out hRl hsc RP.out hown' hgrow hob)
                     clear hown' hgrow hob hV' s5)
        obtain ⟨w6, hw6⟩ : ∃ w6, w6 = w5.setCell ⟨w.heap.size + 1, 3, none⟩ (.slice VA' (acc.len + 1) VC') := ⟨_, rfl⟩
        rw [← hw6] at ST
        rw [← hw6]
        clear hw6 s53 s5f k33 n0 n1 n2' n3 kr M3 MR MO LI
        obtain ⟨xs', hxs'⟩ : ∃ xs', xs' = xs ++ [.int .i64 vk, .int .i64 vn, .string vt, .slice va sub.len vc] := ⟨_, rfl⟩
        obtain ⟨acc', hacc'⟩ : ∃ acc', acc' = acc.app (val1 vk vn vt sub) := ⟨_, rfl⟩
        have hal' : acc'.len = acc.len + 1 := by rw [hacc', VL.len_app]; rfl
        have HAL := Lib.hid hal'
        rw [← hxs', ← hacc'] at ST
        rw [← hacc'] at HLS2
        clear hxs' hacc' hal' RP
        have h6 := ST.out.rds.at_
        have pq := fun W hW => peek_c R s q true W hW
        by_cases q44 : pk s q = 44
        · have HL3 := Lib.hid (HLS2.out.trans (if_pos q44))
          have hq2 : q < s.size := pk_lt (by rw [q44]; decide)
          have PQ := Lib.hid (show ∀ W, RdAt W R s q true → Calls Tryz.prog 108 #[.pointer (some ⟨R, 0, none⟩)] W fun e w' => e = .returned (.int .u8 44) ∧ ∃ n, w' = W.drewN n from fun W hW => by
            have := pq W hW
            rw [q44] at this
            exact this)
          have tq := fun W hW => take_c R s q true 44 W hW hs
          have e1 : tkOk s q true 44 = true := by simp [tkOk, hq2, q44]
          have e2 : tkAt s q true 44 = q + 1 := by unfold tkAt; rw [e1]; rfl
          rw [e1, e2] at tq
          have TQ := Lib.hid tq
          have tq1 := fun W hW => take_c R s (q + 1) true 32 W hW hs
          clear tq e1 e2 q44 pq
          by_cases q32 : pk s (q + 1) = 32
          · have HL4 := Lib.hid (HL3.out.trans (if_pos q32))
            have hq3 : q + 1 < s.size := pk_lt (by rw [q32]; decide)
            have e1 : tkOk s (q + 1) true 32 = true := by simp [tkOk, hq3, q32]
            have e2 : tkAt s (q + 1) true 32 = q + 2 := by unfold tkAt; rw [e1]; rfl
            rw [e1, e2] at tq1
            have TQ1 := Lib.hid tq1
            clear tq1 e1 e2 q32
            go_wp2_with fail
            refine (PQ.out _ h6).mono ?_
            rintro e w7 ⟨rfl, n7, rfl⟩
            go_wp2_with fail
            refine (TQ.out _ (h6.drewN n7)).mono ?_
            rintro e w8 ⟨rfl, hr8⟩
            go_wp2_with fail
            refine (TQ1.out _ hr8.at_).mono ?_
            rintro e w9 ⟨rfl, hr9⟩
            have hr9' : Rds w6 w9 R s (q + 2) true := (((Rds.of h6).drewN n7).trans hr8).trans hr9
            have kr9 := hr9.at_.c2
            have LI9 := Lib.hid (ST.out.ok hr9' hRl)
            clear hr8 hr9 hr9'
            go_wp2_with fail
            go_roundg k
            case measure => omega
            case rel => exact ⟨.slice VA' (acc.len + 1) VC', q + 2, acc', xs', LI9.out, by omega, by omega, by omega, by have := HAL.out; omega, HL4.out.symm.trans hqq.out⟩
          · have HL4 := Lib.hid (HL3.out.trans (if_neg q32))
            have e1 : tkOk s (q + 1) true 32 = false := by simp [tkOk, q32]
            have e2 : tkAt s (q + 1) true 32 = q + 1 := by unfold tkAt; rw [e1]; rfl
            rw [e1, e2] at tq1
            have TQ1 := Lib.hid tq1
            clear tq1 e1 e2 q32
            go_wp2_with fail
            refine (PQ.out _ h6).mono ?_
            rintro e w7 ⟨rfl, n7, rfl⟩
            go_wp2_with fail
            refine (TQ.out _ (h6.drewN n7)).mono ?_
            rintro e w8 ⟨rfl, hr8⟩
            go_wp2_with fail
            refine (TQ1.out _ hr8.at_).mono ?_
            rintro e w9 ⟨rfl, hr9⟩
            have hr9' : Rds w6 w9 R s (q + 1) false := (((Rds.of h6).drewN n7).trans hr8).trans hr9
            obtain ⟨m2, m3, mo, mc, mz9⟩ := ST.out.move hr9' hRl
            have kr9 := hr9.at_.c2
            have k20 := m2.c0; have k21 := m2.c1; have k22 := m2.c2; have k23 := m2.c3
            have k30 := m3.c0; have k31 := m3.c1; have k32 := m3.c2; have k33 := m3.c3
            have f20 := m2.fr 0; have f21 := m2.fr 1; have f22 := m2.fr 2; have f23 := m2.fr 3
            have M2 := Lib.hid m2
            have R9 := Lib.hid (ST.out.rds.trans hr9')
            clear hr8 hr9 hr9' m2 m3 mo mc
            go_wp2_with fail
            refine ret_cell4 Tryz.results115 w.heap.size rfl rfl (M2.out.set4 _ _ _ _) ?_
            rw [HSP.out, ← hqq.out, HL4.out]
            exact ⟨4, 0, ⟨#[]⟩, VA', acc.len + 1, VC', rfl, R9.out.far4 (Nat.le_refl _) hRl _ _ _ _, fun e => by cases e⟩
        · have HL3 := Lib.hid (HLS2.out.trans (if_neg q44))
          have nq := ne_byte (x := pk s q) 44 44 rfl q44
          obtain ⟨c2, hc2⟩ : ∃ c : Nat, c = (pk s q).toNat := ⟨_, rfl⟩
          rw [← hc2] at nq pq
          obtain ⟨nq1, nq2⟩ := nq
          have PQ := Lib.hid pq
          have HT : Hid (∀ W, RdAt W R s q true → Calls Tryz.prog 140 #[.pointer (some ⟨R, 0, none⟩), .int .u8 125] W fun e w' => e = .returned (.tuple #[]) ∧ Rds W w' R s (lstSp s (k + 1) j acc).1 (lstSp s (k + 1) j acc).2.1) := by
            intro W hW
            have ht := take_c R s q true 125 W hW hs
            by_cases q125 : pk s q = 125
            · have hq2 : q < s.size := pk_lt (by rw [q125]; decide)
              have e1 : tkOk s q true 125 = true := by simp [tkOk, hq2, q125]
              have e2 : tkAt s q true 125 = q + 1 := by unfold tkAt; rw [e1]; rfl
              rw [HL3.out, if_pos q125]
              rw [e1, e2] at ht
              exact ht
            · have e1 : tkOk s q true 125 = false := by simp [tkOk, q125]
              have e2 : tkAt s q true 125 = q := by unfold tkAt; rw [e1]; rfl
              rw [HL3.out, if_neg q125]
              rw [e1, e2] at ht
              exact ht
          have HV : Hid ((lstSp s (k + 1) j acc).2.2 = acc') := by
            show _ = _
            rw [HL3.out]
            split <;> rfl
          clear pq hc2 q44
          go_wp2_with fail
          refine (PQ.out _ h6).mono ?_
          rintro e w7 ⟨rfl, n7, rfl⟩
          go_wp2_with fail
          refine (HT.out _ (h6.drewN n7)).mono ?_
          rintro e w8 ⟨rfl, hr8⟩
          have hr8' : Rds w6 w8 R s (lstSp s (k + 1) j acc).1 (lstSp s (k + 1) j acc).2.1 := ((Rds.of h6).drewN n7).trans hr8
          obtain ⟨m2, m3, mo, mc, mz8⟩ := ST.out.move hr8' hRl
          have k20 := m2.c0; have k21 := m2.c1; have k22 := m2.c2; have k23 := m2.c3
          have k30 := m3.c0; have k31 := m3.c1; have k32 := m3.c2; have k33 := m3.c3
          have f20 := m2.fr 0; have f21 := m2.fr 1; have f22 := m2.fr 2; have f23 := m2.fr 3
          have M2 := Lib.hid m2
          have MO := Lib.hid mo
          have MC := Lib.hid mc
          have R8 := Lib.hid (ST.out.rds.trans hr8')
          have RL := Lib.hid (own_rep (S := fun b => w.heap.size + 2 ≤ b ∧ b < w8.heap.size) mo (mc.keep (fun _ _ => rfl) (fun b hb => ⟨hb.1, hb.2.1⟩)) (fun g hg => ⟨own_ge mo g hg, own_lt mo g hg⟩))
          clear hr8 hr8' m2 m3 mo mc
          go_wp2_with fail
          refine ret_cell4 Tryz.results115 w.heap.size rfl rfl (M2.out.set4 _ _ _ _) ?_
          rw [HSP.out, ← hqq.out, HV.out]
          obtain ⟨sa, sc, hse, hsl, hrp⟩ := RL.out
          injection hse with hs1 hs2 hs3
          subst hs1; subst hs3
          refine ⟨4, 0, ⟨#[]⟩, VA', acc.len + 1, VC', rfl, R8.out.far4 (Nat.le_refl _) hRl _ _ _ _, fun _ => ⟨acc', rfl, HAL.out.symm, hsl, ?_⟩⟩
          exact hrp.keep (fun b hb => heap_set4 _ _ _ _ _ _ _ (by have := hb.1; omega)) (fun b hb => ⟨by have := hb.1; omega, by rw [size_set4]; exact hb.2⟩)
end Go.Proofs.YtjibjgokloondaaGreatDoor
