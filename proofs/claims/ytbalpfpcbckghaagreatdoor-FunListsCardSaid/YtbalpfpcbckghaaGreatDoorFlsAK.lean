/- Contracts of the functions that the statement reaches, and the plain mathematics beneath: several texts joined. -/
import Derived.Test.YtbalpfpcbckghaaGreatDoorFlsAF
namespace Go.Proofs.YtbalpfpcbckghaaGreatDoor
open Go.RowKit Go.Lib Go.Sort Go.Shelf
set_option linter.unusedVariables false
set_option linter.unusedSimpArgs false
section
variable {P : Program} {α : Type} [Inhabited α] {enc : α → List Value} {k : Nat} {w0 w : World} {blk off : Nat} {d0 d : Array α}
set_option maxRecDepth 1000000 in
set_option maxHeartbeats 8000000 in
theorem merge1_g {cap a m b : Nat} {g : Nat} {cb : Array Value} {cf : α → α → Int} (L : LayV P k) (FG : P.funcs[232]? = some Tryz.f232) (eg : ∀ args w, (callFunc g args).run P w = .ok (.enter g args) w) (hcmp : CmpLays P g cb enc k cf blk off d0.size w0)
    (R : RowK enc k w0 blk off d0) (hs : d.size = d0.size) (S : SWK enc k w0 blk off d w) (ha : a < m) (hm : m < b) (hb : b ≤ d.size) (hsz : d.size < 4611686018427387904) (h1 : m - a = 1) :
    Calls P 232 #[.slice (some ⟨blk, off, none⟩) d.size cap, .int .i64 a, .int .i64 m, .int .i64 b, .func (.func g) #[] cb] w fun e w' => e = .returned (.tuple #[]) ∧ SWK enc k w0 blk off (shU a (bsr (fun h => ltOf cf d[h]! d[a]!) (b - m) m b - 1 - a) d) w' := by
  have mixed := L.mixed; have t0 := L.t0; have a0 := L.a0; have z0 := L.z0; have v0 := L.v0; have t3 := L.t3; have a3 := L.a3; have z3 := L.z3; have v3 := L.v3; have t4 := L.t4; have a4 := L.a4; have z4 := L.z4; have v4 := L.v4; have t22 := L.t22; have a22 := L.a22; have z22 := L.z22; have v22 := L.v22; have t90 := L.t90; have a90 := L.a90; have z90 := L.z90; have v90 := L.v90; have t131 := L.t131; have a131 := L.a131; have z131 := L.z131; have v131 := L.v131; have aE := L.aE; have zE := L.zE
  have HC : Aside _ := hcmp
  have S0 : Aside (SWK enc k w0 blk off d w) := S
  have hs1 := hs.symm
  clear S L hcmp hs
  have hmz : (m : Int) - (a : Int) = 1 := by omega
  go_enter FG, Tryz.ntmps232
  go_wp2
  go_loopg [10, 11] (b - m) (fun kx s8 s9 wr => ∃ (s r : Nat), s8 = .int .i64 s ∧ s9 = .int .i64 r ∧ m ≤ s ∧ s ≤ r ∧ r ≤ b ∧ r - s ≤ kx ∧ Aside (SWK enc k w0 blk off d wr) ∧ Hid (bsr (fun h => ltOf cf d[h]! d[a]!) kx s r = bsr (fun h => ltOf cf d[h]! d[a]!) (b - m) (m) (b)))
  case atStart => exact ⟨m, b, by first | rfl | go_num | (congr 1; omega), by first | rfl | go_num | (congr 1; omega), by omega, by omega, by omega, by omega, S0, rfl⟩
  case round =>
    clear S0
    obtain ⟨s, r, rfl, rfl, hlo, hsr, hrb, hkx, S1, HE⟩ := hrel
    by_cases hlt : s < r
    · obtain ⟨f, rfl⟩ : ∃ f, gk = f + 1 := ⟨gk - 1, by omega⟩
      have hsz1 : s + r < 2 * d.size := by omega
      cases hL : ltOf cf d[(s + r) / 2]! d[a]! with
      | true =>
        have ea5a : (((s : Int) + (r : Int)) / 2).toNat = (s + r) / 2 := by omega
        have pa5a : (0 : Int) ≤ ((s : Int) + (r : Int)) / 2 := by omega
        have ba5a : ((s : Int) + (r : Int)) / 2 < (d.size : Int) := by omega
        have ra5a : IntKind.i64.wrap (((s : Int) + (r : Int)) / 2) = ((s : Int) + (r : Int)) / 2 := by rw [IntKind.wrap_i64]; omega
        have ea5b : ((a : Int)).toNat = a := by omega
        have pa5b : (0 : Int) ≤ (a : Int) := by omega
        have ba5b : (a : Int) < (d.size : Int) := by omega
        have ra5b : IntKind.i64.wrap ((a : Int)) = (a : Int) := by rw [IntKind.wrap_i64]; omega
        obtain ⟨x5, hx5⟩ : ∃ x, x = d[(s + r) / 2]! := ⟨_, rfl⟩
        obtain ⟨y5, hy5⟩ : ∃ x, x = d[a]! := ⟨_, rfl⟩
        have l5a := S1.out.ld R (by omega) P ((s + r) / 2) (by omega)
        have l5b := S1.out.ld R (by omega) P (a) (by omega)
        rw [← hx5] at l5a
        rw [← hy5] at l5b
        have hc5 := S1.out.cmp HC.out (by omega) x5 y5
        have hv5 : cf x5 y5 < 0 := by rw [hx5, hy5]; exact of_decide_eq_true hL
        have hd5 : decide (cf x5 y5 < 0) = true := decide_eq_true hv5
        clear hx5 hy5
        go_wp2_with fail
        go_quiet_grown (first | (go_at_fn g; refine Calls.grown_of (hc5 _ _)))
        have S5 : Aside (SWK enc k w0 blk off d (grow (wr.drewN nq) osq)) := S1.out.grown nq osq
        clear l5a l5b hc5 S1
        generalize grow (wr.drewN nq) osq = w5 at S5 ⊢
        clear nq osq
        go_wp2_with fail
        go_roundg f
        case measure => omega
        case rel => exact ⟨(s + r) / 2 + 1, r, by rw [show ((s : Int) + (r : Int)) / 2 + 1 = (((s + r) / 2 + 1 : Nat) : Int) by omega], rfl, by omega, by omega, by omega, by omega, S5, by show _ = _; rw [← HE.out, bsr, if_pos hlt, if_pos (by simp [hL])]⟩
      | false =>
        have ea5a : (((s : Int) + (r : Int)) / 2).toNat = (s + r) / 2 := by omega
        have pa5a : (0 : Int) ≤ ((s : Int) + (r : Int)) / 2 := by omega
        have ba5a : ((s : Int) + (r : Int)) / 2 < (d.size : Int) := by omega
        have ra5a : IntKind.i64.wrap (((s : Int) + (r : Int)) / 2) = ((s : Int) + (r : Int)) / 2 := by rw [IntKind.wrap_i64]; omega
        have ea5b : ((a : Int)).toNat = a := by omega
        have pa5b : (0 : Int) ≤ (a : Int) := by omega
        have ba5b : (a : Int) < (d.size : Int) := by omega
        have ra5b : IntKind.i64.wrap ((a : Int)) = (a : Int) := by rw [IntKind.wrap_i64]; omega
        obtain ⟨x5, hx5⟩ : ∃ x, x = d[(s + r) / 2]! := ⟨_, rfl⟩
        obtain ⟨y5, hy5⟩ : ∃ x, x = d[a]! := ⟨_, rfl⟩
        have l5a := S1.out.ld R (by omega) P ((s + r) / 2) (by omega)
        have l5b := S1.out.ld R (by omega) P (a) (by omega)
        rw [← hx5] at l5a
        rw [← hy5] at l5b
        have hc5 := S1.out.cmp HC.out (by omega) x5 y5
        have hv5 : ¬ cf x5 y5 < 0 := by rw [hx5, hy5]; exact of_decide_eq_false hL
        have hd5 : decide (cf x5 y5 < 0) = false := decide_eq_false hv5
        clear hx5 hy5
        go_wp2_with fail
        go_quiet_grown (first | (go_at_fn g; refine Calls.grown_of (hc5 _ _)))
        have S5 : Aside (SWK enc k w0 blk off d (grow (wr.drewN nq) osq)) := S1.out.grown nq osq
        clear l5a l5b hc5 S1
        generalize grow (wr.drewN nq) osq = w5 at S5 ⊢
        clear nq osq
        go_wp2_with fail
        go_roundg f
        case measure => omega
        case rel => exact ⟨s, (s + r) / 2, rfl, by rw [show ((s : Int) + (r : Int)) / 2 = (((s + r) / 2 : Nat) : Int) by omega], by omega, by omega, by omega, by omega, S5, by show _ = _; rw [← HE.out, bsr, if_pos hlt, if_neg (by simp [hL])]⟩
    · have hrs : r = s := by omega
      subst hrs
      have HB : Hid (r = bsr (fun h => ltOf cf d[h]! d[a]!) (b - m) m b) := (by show _ = _; rw [← HE.out]; cases gk with | zero => rfl | succ f => rw [bsr, if_neg (Nat.lt_irrefl _)])
      have hr1 : ((r : Int) - 1) = ((r - 1 : Nat) : Int) := by omega
      clear HE
      go_wp2_with fail
      go_loopg [13] (r - 1 - a) (fun kk v wq => ∃ i : Nat, v = .int .i64 ((a : Int) + i) ∧ i + kk = r - 1 - a ∧ Aside (SWK enc k w0 blk off (shU a i d) wq))
      case atStart => exact ⟨0, by go_num, by omega, S1⟩
      case round =>
        clear S1
        obtain ⟨i, rfl, hik, S1⟩ := hrel
        have hz := shU_size a i d
        by_cases hi : i < r - 1 - a
        · obtain ⟨f, rfl⟩ : ∃ f, gk = f + 1 := ⟨gk - 1, by omega⟩
          have hlt : (a : Int) + (i : Int) < (r : Int) - 1 := by omega
          have ea7a : ((a : Int) + (i : Int)).toNat = a + i := by omega
          have pa7a : (0 : Int) ≤ (a : Int) + (i : Int) := by omega
          have ba7a : (a : Int) + (i : Int) < (d.size : Int) := by omega
          have ra7a : IntKind.i64.wrap ((a : Int) + (i : Int)) = (a : Int) + (i : Int) := by rw [IntKind.wrap_i64]; omega
          have ea7b : ((a : Int) + (i : Int) + 1).toNat = a + i + 1 := by omega
          have pa7b : (0 : Int) ≤ (a : Int) + (i : Int) + 1 := by omega
          have ba7b : (a : Int) + (i : Int) + 1 < (d.size : Int) := by omega
          have ra7b : IntKind.i64.wrap ((a : Int) + (i : Int) + 1) = (a : Int) + (i : Int) + 1 := by rw [IntKind.wrap_i64]; omega
          have S7 : Aside (SWK enc k w0 blk off (shU a (i + 1) d) ((wr.drew.setCells blk (off + (a + i) * k) (enc (shU a i d)[a + i + 1]!)).setCells blk (off + (a + i + 1) * k) (enc (shU a i d)[a + i]!))) := S1.out.swapped R (a + i) (a + i + 1) (by omega) (by omega)
          have l7a := S1.out.ld1 R (by omega) P (a + i) (by omega)
          have l7b := S1.out.ld1 R (by omega) P (a + i + 1) (by omega)
          have s7a := S1.out.st1 R (by omega) P (a + i) (by omega) (shU a i d)[a + i + 1]!
          have s7b := S1.out.st2 R (by omega) P (a + i) (a + i + 1) (by omega) (by omega) (shU a i d)[a + i + 1]! (shU a i d)[a + i]!
          have n7a : (enc (shU a i d)[a + i]!).length = k := R.hk _
          have n7b : (enc (shU a i d)[a + i + 1]!).length = k := R.hk _
          generalize enc (shU a i d)[a + i]! = cI7 at S7 l7a s7b n7a
          generalize enc (shU a i d)[a + i + 1]! = cJ7 at S7 l7b s7a s7b n7b
          clear S1
          go_wp2_with fail
          go_big_region_o
          clear l7a l7b s7a s7b
          generalize (wr.drew.setCells blk (off + (a + i) * k) cJ7).setCells blk (off + (a + i + 1) * k) cI7 = w7 at S7 ⊢
          go_wp2_with fail
          go_roundg f
          case measure => omega
          case rel => exact ⟨i + 1, by first | go_num | (congr 1; omega), by omega, S7⟩
        · have hlt : ¬ (a : Int) + (i : Int) < (r : Int) - 1 := by omega
          obtain rfl : i = r - 1 - a := by omega
          go_wp2_with fail
          refine bodyPost_ret (results_none rfl _ _ _) rfl ?_
          exact ⟨rfl, by rw [← HB.out]; exact S1.out⟩
end
end Go.Proofs.YtbalpfpcbckghaaGreatDoor
