/- Contracts of the functions that the statement reaches, and the plain mathematics beneath: several texts joined. -/
import Derived.Test.YtgmnbdfbbcpciaaGreatDoorSmF
import Derived.Lib.AppendStr
import Derived.Lib.Repeat
import Derived.Deep.RegionLaw
import Derived.Test.YtgmnbdfbbcpciaaGreatDoorSmA
import Derived.Test.YtgmnbdfbbcpciaaGreatDoorSmB
import Derived.Test.YtgmnbdfbbcpciaaGreatDoorSmC
import Derived.Test.YtgmnbdfbbcpciaaGreatDoorSmD
import Derived.Test.YtgmnbdfbbcpciaaGreatDoorSmE
namespace Go.Proofs.YtgmnbdfbbcpciaaGreatDoor
open Go.RowKit Go.Lib
set_option linter.unusedVariables false

set_option maxRecDepth 100000 in
set_option maxHeartbeats 4000000 in
theorem bare_21 {N : Nat} (ih : ∀ N', N' < N → BareC N') (ln : Int) (s : ByteArray) (k n : Int) (t : ByteArray) (v : VL) (va : Option Addr) (vc : Nat) (sub : NL) (sa : Option Addr) (sc : Nat) (ea : Nat → Addr) (w : World) (hN : sub.tot < N) (hsh : ShAt w ea) (hnd : NdIn w 21 ln s k n t v va vc sub sa sc) (hm : sub.len = 3) :
    Calls Tryz.prog 33 #[.agg #[.int .i64 21, .int .i64 ln, .string s, .int .i64 k, .int .i64 n, .string t, .slice va v.len vc, .slice sa sub.len sc]] w (SayT w (nodeT 21 s k n t v (ntx sub)).b) := by
  rw [hm]
  obtain ⟨wa, hwa⟩ : ∃ wa, wa = w.alloc (.cells #[.int .i64 21, .int .i64 ln, .string s, .int .i64 k, .int .i64 n, .string t, .slice va v.len vc, .slice sa 3 sc] 33) := ⟨_, rfl⟩
  have hb : Below w.heap.size w wa := by rw [hwa]; exact (Below.refl _ _).alloc (Nat.le_refl _) _
  have hN1 : NdB wa w.heap.size (.int .i64 21) (.int .i64 ln) (.string s) (.int .i64 k) (.int .i64 n) (.string t) (.slice va v.len vc) (.slice sa 3 sc) := by rw [hwa]; exact NdB.new _ _ _ _ _ _ _ _ _
  have v0 := hN1.c0; have v7 := hN1.c7
  have u0 := v0
  have hwz : w.heap.size < wa.heap.size := by rw [hwa]; simp
  rw [hwa] at v0 v7
  obtain ⟨b, o, hA⟩ := sa_of hnd (by omega)
  obtain ⟨k0a0, k0a1, k0a2, k0a3, k0a4, k0a5, k0a6, k0a7, hbl0, K0⟩ := kid_of ih hN (hsh.below hb) (hnd.below hb) 0 (by omega) hA
  obtain ⟨k1a0, k1a1, k1a2, k1a3, k1a4, k1a5, k1a6, k1a7, hbl1, K1⟩ := kid_of ih hN (hsh.below hb) (hnd.below hb) 1 (by omega) hA
  obtain ⟨k2a0, k2a1, k2a2, k2a3, k2a4, k2a5, k2a6, k2a7, hbl2, K2⟩ := kid_of ih hN (hsh.below hb) (hnd.below hb) 2 (by omega) hA
  obtain ⟨x0, hx0⟩ : ∃ x, x = (ntx sub).getD 0 default := ⟨_, rfl⟩
  rw [← hx0] at K0
  rw [show o + 0 * 8 = o from by omega] at K0
  obtain ⟨x1, hx1⟩ : ∃ x, x = (ntx sub).getD 1 default := ⟨_, rfl⟩
  rw [← hx1] at K1
  rw [show o + 1 * 8 = o + 8 from rfl] at K1
  obtain ⟨x2, hx2⟩ : ∃ x, x = (ntx sub).getD 2 default := ⟨_, rfl⟩
  rw [← hx2] at K2
  rw [show o + 2 * 8 = o + 16 from rfl] at K2
  have HT := Lib.hid (show bs (nodeT 21 s k n t v (ntx sub)).b = bs (inT x0) ++ ⟨#[91]⟩ ++ bs x1.b ++ ⟨#[46, 46]⟩ ++ bs x2.b ++ ⟨#[93]⟩ by
    have e : (nodeT 21 s k n t v (ntx sub)).b = (inT x0) ++ [91] ++ x1.b ++ [46, 46] ++ x2.b ++ [93] := by rw [hx0, hx1, hx2]; rfl
    rw [e]; apply ByteArray.ext; simp [bs])
  rw [show SayT w (nodeT 21 s k n t v (ntx sub)).b = fun e w' => e = .returned (.string (bs (nodeT 21 s k n t v (ntx sub)).b)) ∧ Below w.heap.size w w' from rfl, HT.out]
  obtain ⟨c00, c01, c02, c03, c04, c05, c06, c07, ⟨z0a, z0b, z0c, z0d⟩, BC0, IC0, NC0, CC0⟩ := K0
  rw [← bs_size] at z0a
  rw [← bs_size] at z0b
  rw [← bs_size] at z0c
  rw [← bs_size] at z0d
  obtain ⟨c10, c11, c12, c13, c14, c15, c16, c17, ⟨z1a, z1b, z1c, z1d⟩, BC1, IC1, NC1, CC1⟩ := K1
  rw [← bs_size] at z1a
  rw [← bs_size] at z1b
  rw [← bs_size] at z1c
  rw [← bs_size] at z1d
  obtain ⟨c20, c21, c22, c23, c24, c25, c26, c27, ⟨z2a, z2b, z2c, z2d⟩, BC2, IC2, NC2, CC2⟩ := K2
  rw [← bs_size] at z2a
  rw [← bs_size] at z2b
  rw [← bs_size] at z2c
  rw [← bs_size] at z2d
  have s1 : ¬ (9223372036854775807 < (bs (inT x0)).size + 1) := by omega
  have s2 : ¬ (9223372036854775807 < (bs (inT x0)).size + 1 + (bs x1.b).size) := by omega
  have s3 : ¬ (9223372036854775807 < (bs (inT x0)).size + 1 + (bs x1.b).size + 2) := by omega
  have s4 : ¬ (9223372036854775807 < (bs (inT x0)).size + 1 + (bs x1.b).size + 2 + (bs x2.b).size) := by omega
  have s5 : ¬ (9223372036854775807 < (bs (inT x0)).size + 1 + (bs x1.b).size + 2 + (bs x2.b).size + 1) := by omega
  obtain ⟨S, hS⟩ : ∃ S : World → Prop, S = fun W => W.cell? ⟨b, o, none⟩ = some k0a0 ∧ W.cell? ⟨b, o + 1, none⟩ = some k0a1 ∧ W.cell? ⟨b, o + 2, none⟩ = some k0a2 ∧ W.cell? ⟨b, o + 3, none⟩ = some k0a3 ∧ W.cell? ⟨b, o + 4, none⟩ = some k0a4 ∧ W.cell? ⟨b, o + 5, none⟩ = some k0a5 ∧ W.cell? ⟨b, o + 6, none⟩ = some k0a6 ∧ W.cell? ⟨b, o + 7, none⟩ = some k0a7 ∧ W.cell? ⟨b, o + 8, none⟩ = some k1a0 ∧ W.cell? ⟨b, o + 8 + 1, none⟩ = some k1a1 ∧ W.cell? ⟨b, o + 8 + 2, none⟩ = some k1a2 ∧ W.cell? ⟨b, o + 8 + 3, none⟩ = some k1a3 ∧ W.cell? ⟨b, o + 8 + 4, none⟩ = some k1a4 ∧ W.cell? ⟨b, o + 8 + 5, none⟩ = some k1a5 ∧ W.cell? ⟨b, o + 8 + 6, none⟩ = some k1a6 ∧ W.cell? ⟨b, o + 8 + 7, none⟩ = some k1a7 ∧ W.cell? ⟨b, o + 16, none⟩ = some k2a0 ∧ W.cell? ⟨b, o + 16 + 1, none⟩ = some k2a1 ∧ W.cell? ⟨b, o + 16 + 2, none⟩ = some k2a2 ∧ W.cell? ⟨b, o + 16 + 3, none⟩ = some k2a3 ∧ W.cell? ⟨b, o + 16 + 4, none⟩ = some k2a4 ∧ W.cell? ⟨b, o + 16 + 5, none⟩ = some k2a5 ∧ W.cell? ⟨b, o + 16 + 6, none⟩ = some k2a6 ∧ W.cell? ⟨b, o + 16 + 7, none⟩ = some k2a7 ∧ Below wa.heap.size wa W := ⟨_, rfl⟩
  have KS : ∀ W, Below wa.heap.size wa W → S W := fun W h => by rw [hS]; exact ⟨cellB h c00 hbl0, cellB h c01 hbl0, cellB h c02 hbl0, cellB h c03 hbl0, cellB h c04 hbl0, cellB h c05 hbl0, cellB h c06 hbl0, cellB h c07 hbl0, cellB h c10 hbl1, cellB h c11 hbl1, cellB h c12 hbl1, cellB h c13 hbl1, cellB h c14 hbl1, cellB h c15 hbl1, cellB h c16 hbl1, cellB h c17 hbl1, cellB h c20 hbl2, cellB h c21 hbl2, cellB h c22 hbl2, cellB h c23 hbl2, cellB h c24 hbl2, cellB h c25 hbl2, cellB h c26 hbl2, cellB h c27 hbl2, h⟩
  have BS : ∀ W, S W → Below wa.heap.size wa W := fun W h => by rw [hS] at h; exact h.2.2.2.2.2.2.2.2.2.2.2.2.2.2.2.2.2.2.2.2.2.2.2.2
  have C0 := Lib.hid (fun W (h : S W) => (IC0 W (BS W h)).mono (R' := fun e W' => e = .returned (.string (bs (inT x0))) ∧ S W') fun e W' ⟨h1, h2⟩ => ⟨h1, KS _ ((BS W h).trans (below_le' h2 (BS W h).size))⟩)
  have C1 := Lib.hid (fun W (h : S W) => (BC1 W (BS W h)).mono (R' := fun e W' => e = .returned (.string (bs x1.b)) ∧ S W') fun e W' ⟨h1, h2⟩ => ⟨h1, KS _ ((BS W h).trans (below_le' h2 (BS W h).size))⟩)
  have C2 := Lib.hid (fun W (h : S W) => (BC2 W (BS W h)).mono (R' := fun e W' => e = .returned (.string (bs x2.b)) ∧ S W') fun e W' ⟨h1, h2⟩ => ⟨h1, KS _ ((BS W h).trans (below_le' h2 (BS W h).size))⟩)
  have K0 : S wa.drew := KS _ ((Below.refl _ _).drew)
  have KA : S wa := KS _ (Below.refl _ _)
  have BSS := Lib.hid BS
  have HB := Lib.hid hb
  have HWA := Lib.hid hwa
  subst hA
  have i0 : 0 < sub.len := by omega
  have i1 : 1 < sub.len := by omega
  have i2 : 2 < sub.len := by omega
  clear hm
  clear KS BS hb hN1 hwa hsh hnd hN ih HT BC0 IC0 NC0 CC0 BC1 IC1 NC1 CC1 BC2 IC2 NC2 CC2 hx0 hx1 hx2 u0 
  subst hS
  go_enter Tryz.func33, Tryz.ntmps33
  go_wp2_with fail
  rw [← HWA.out]
  go_region_held3 (fun W => W.cell? ⟨b, o, none⟩ = some k0a0 ∧ W.cell? ⟨b, o + 1, none⟩ = some k0a1 ∧ W.cell? ⟨b, o + 2, none⟩ = some k0a2 ∧ W.cell? ⟨b, o + 3, none⟩ = some k0a3 ∧ W.cell? ⟨b, o + 4, none⟩ = some k0a4 ∧ W.cell? ⟨b, o + 5, none⟩ = some k0a5 ∧ W.cell? ⟨b, o + 6, none⟩ = some k0a6 ∧ W.cell? ⟨b, o + 7, none⟩ = some k0a7 ∧ W.cell? ⟨b, o + 8, none⟩ = some k1a0 ∧ W.cell? ⟨b, o + 8 + 1, none⟩ = some k1a1 ∧ W.cell? ⟨b, o + 8 + 2, none⟩ = some k1a2 ∧ W.cell? ⟨b, o + 8 + 3, none⟩ = some k1a3 ∧ W.cell? ⟨b, o + 8 + 4, none⟩ = some k1a4 ∧ W.cell? ⟨b, o + 8 + 5, none⟩ = some k1a5 ∧ W.cell? ⟨b, o + 8 + 6, none⟩ = some k1a6 ∧ W.cell? ⟨b, o + 8 + 7, none⟩ = some k1a7 ∧ W.cell? ⟨b, o + 16, none⟩ = some k2a0 ∧ W.cell? ⟨b, o + 16 + 1, none⟩ = some k2a1 ∧ W.cell? ⟨b, o + 16 + 2, none⟩ = some k2a2 ∧ W.cell? ⟨b, o + 16 + 3, none⟩ = some k2a3 ∧ W.cell? ⟨b, o + 16 + 4, none⟩ = some k2a4 ∧ W.cell? ⟨b, o + 16 + 5, none⟩ = some k2a5 ∧ W.cell? ⟨b, o + 16 + 6, none⟩ = some k2a6 ∧ W.cell? ⟨b, o + 16 + 7, none⟩ = some k2a7 ∧ Below wa.heap.size wa W)
    (first | (with_reducible assumption) | (with_reducible exact K0) | (with_reducible exact KA))
    (first
      | (go_at_call 49; with_reducible refine (C0.out _ ?_).mono ?_; (with_reducible assumption); rintro e w10 ⟨rfl, hs10⟩)
      | (go_at_call 33; with_reducible refine (C1.out _ ?_).mono ?_; (with_reducible assumption); rintro e w11 ⟨rfl, hs11⟩)
      | (go_at_call 33; with_reducible refine (C2.out _ ?_).mono ?_; (with_reducible assumption); rintro e w12 ⟨rfl, hs12⟩))
  all_goals
    go_wp2_with fail
    go_ret
    exact ⟨rfl, HB.out.trans (below_le' (BSS.out _ (by with_reducible assumption)) HB.out.size)⟩
end Go.Proofs.YtgmnbdfbbcpciaaGreatDoor
namespace Go.Proofs.YtgmnbdfbbcpciaaGreatDoor
open Go.RowKit Go.Lib
set_option linter.unusedVariables false

set_option maxRecDepth 100000 in
set_option maxHeartbeats 4000000 in
theorem bare_22 {N : Nat} (ih : ∀ N', N' < N → BareC N') (ln : Int) (s : ByteArray) (k n : Int) (t : ByteArray) (v : VL) (va : Option Addr) (vc : Nat) (sub : NL) (sa : Option Addr) (sc : Nat) (ea : Nat → Addr) (w : World) (hN : sub.tot < N) (hsh : ShAt w ea) (hnd : NdIn w 22 ln s k n t v va vc sub sa sc) (hm : sub.len = 2) :
    Calls Tryz.prog 33 #[.agg #[.int .i64 22, .int .i64 ln, .string s, .int .i64 k, .int .i64 n, .string t, .slice va v.len vc, .slice sa sub.len sc]] w (SayT w (nodeT 22 s k n t v (ntx sub)).b) := by
  rw [hm]
  obtain ⟨wa, hwa⟩ : ∃ wa, wa = w.alloc (.cells #[.int .i64 22, .int .i64 ln, .string s, .int .i64 k, .int .i64 n, .string t, .slice va v.len vc, .slice sa 2 sc] 33) := ⟨_, rfl⟩
  have hb : Below w.heap.size w wa := by rw [hwa]; exact (Below.refl _ _).alloc (Nat.le_refl _) _
  have hN1 : NdB wa w.heap.size (.int .i64 22) (.int .i64 ln) (.string s) (.int .i64 k) (.int .i64 n) (.string t) (.slice va v.len vc) (.slice sa 2 sc) := by rw [hwa]; exact NdB.new _ _ _ _ _ _ _ _ _
  have v0 := hN1.c0; have v7 := hN1.c7
  have u0 := v0
  have hwz : w.heap.size < wa.heap.size := by rw [hwa]; simp
  rw [hwa] at v0 v7
  obtain ⟨b, o, hA⟩ := sa_of hnd (by omega)
  obtain ⟨k0a0, k0a1, k0a2, k0a3, k0a4, k0a5, k0a6, k0a7, hbl0, K0⟩ := kid_of ih hN (hsh.below hb) (hnd.below hb) 0 (by omega) hA
  obtain ⟨k1a0, k1a1, k1a2, k1a3, k1a4, k1a5, k1a6, k1a7, hbl1, K1⟩ := kid_of ih hN (hsh.below hb) (hnd.below hb) 1 (by omega) hA
  obtain ⟨x0, hx0⟩ : ∃ x, x = (ntx sub).getD 0 default := ⟨_, rfl⟩
  rw [← hx0] at K0
  rw [show o + 0 * 8 = o from by omega] at K0
  obtain ⟨x1, hx1⟩ : ∃ x, x = (ntx sub).getD 1 default := ⟨_, rfl⟩
  rw [← hx1] at K1
  rw [show o + 1 * 8 = o + 8 from rfl] at K1
  have HT := Lib.hid (show bs (nodeT 22 s k n t v (ntx sub)).b = bs (inT x0) ++ ⟨#[46]⟩ ++ bs x1.nm by
    have e : (nodeT 22 s k n t v (ntx sub)).b = (inT x0) ++ [46] ++ x1.nm := by rw [hx0, hx1]; rfl
    rw [e]; apply ByteArray.ext; simp [bs])
  rw [show SayT w (nodeT 22 s k n t v (ntx sub)).b = fun e w' => e = .returned (.string (bs (nodeT 22 s k n t v (ntx sub)).b)) ∧ Below w.heap.size w w' from rfl, HT.out]
  obtain ⟨c00, c01, c02, c03, c04, c05, c06, c07, ⟨z0a, z0b, z0c, z0d⟩, BC0, IC0, NC0, CC0⟩ := K0
  rw [← bs_size] at z0a
  rw [← bs_size] at z0b
  rw [← bs_size] at z0c
  rw [← bs_size] at z0d
  obtain ⟨c10, c11, c12, c13, c14, c15, c16, c17, ⟨z1a, z1b, z1c, z1d⟩, BC1, IC1, NC1, CC1⟩ := K1
  rw [← bs_size] at z1a
  rw [← bs_size] at z1b
  rw [← bs_size] at z1c
  rw [← bs_size] at z1d
  have s1 : ¬ (9223372036854775807 < (bs (inT x0)).size + 1) := by omega
  have s2 : ¬ (9223372036854775807 < (bs (inT x0)).size + 1 + (bs x1.nm).size) := by omega
  obtain ⟨S, hS⟩ : ∃ S : World → Prop, S = fun W => W.cell? ⟨b, o, none⟩ = some k0a0 ∧ W.cell? ⟨b, o + 1, none⟩ = some k0a1 ∧ W.cell? ⟨b, o + 2, none⟩ = some k0a2 ∧ W.cell? ⟨b, o + 3, none⟩ = some k0a3 ∧ W.cell? ⟨b, o + 4, none⟩ = some k0a4 ∧ W.cell? ⟨b, o + 5, none⟩ = some k0a5 ∧ W.cell? ⟨b, o + 6, none⟩ = some k0a6 ∧ W.cell? ⟨b, o + 7, none⟩ = some k0a7 ∧ W.cell? ⟨b, o + 8, none⟩ = some k1a0 ∧ W.cell? ⟨b, o + 8 + 1, none⟩ = some k1a1 ∧ W.cell? ⟨b, o + 8 + 2, none⟩ = some k1a2 ∧ W.cell? ⟨b, o + 8 + 3, none⟩ = some k1a3 ∧ W.cell? ⟨b, o + 8 + 4, none⟩ = some k1a4 ∧ W.cell? ⟨b, o + 8 + 5, none⟩ = some k1a5 ∧ W.cell? ⟨b, o + 8 + 6, none⟩ = some k1a6 ∧ W.cell? ⟨b, o + 8 + 7, none⟩ = some k1a7 ∧ Below wa.heap.size wa W := ⟨_, rfl⟩
  have KS : ∀ W, Below wa.heap.size wa W → S W := fun W h => by rw [hS]; exact ⟨cellB h c00 hbl0, cellB h c01 hbl0, cellB h c02 hbl0, cellB h c03 hbl0, cellB h c04 hbl0, cellB h c05 hbl0, cellB h c06 hbl0, cellB h c07 hbl0, cellB h c10 hbl1, cellB h c11 hbl1, cellB h c12 hbl1, cellB h c13 hbl1, cellB h c14 hbl1, cellB h c15 hbl1, cellB h c16 hbl1, cellB h c17 hbl1, h⟩
  have BS : ∀ W, S W → Below wa.heap.size wa W := fun W h => by rw [hS] at h; exact h.2.2.2.2.2.2.2.2.2.2.2.2.2.2.2.2
  have C0 := Lib.hid (fun W (h : S W) => (IC0 W (BS W h)).mono (R' := fun e W' => e = .returned (.string (bs (inT x0))) ∧ S W') fun e W' ⟨h1, h2⟩ => ⟨h1, KS _ ((BS W h).trans (below_le' h2 (BS W h).size))⟩)
  have C1 := Lib.hid (fun W (h : S W) => (NC1 W (BS W h)).mono (R' := fun e W' => e = .returned (.string (bs x1.nm)) ∧ S W') fun e W' ⟨h1, h2⟩ => ⟨h1, KS _ ((BS W h).trans (below_le' h2 (BS W h).size))⟩)
  have K0 : S wa.drew := KS _ ((Below.refl _ _).drew)
  have KA : S wa := KS _ (Below.refl _ _)
  have BSS := Lib.hid BS
  have HB := Lib.hid hb
  have HWA := Lib.hid hwa
  subst hA
  have i0 : 0 < sub.len := by omega
  have i1 : 1 < sub.len := by omega
  clear hm
  clear KS BS hb hN1 hwa hsh hnd hN ih HT BC0 IC0 NC0 CC0 BC1 IC1 NC1 CC1 hx0 hx1 u0 
  subst hS
  go_enter Tryz.func33, Tryz.ntmps33
  go_wp2_with fail
  rw [← HWA.out]
  go_region_held3 (fun W => W.cell? ⟨b, o, none⟩ = some k0a0 ∧ W.cell? ⟨b, o + 1, none⟩ = some k0a1 ∧ W.cell? ⟨b, o + 2, none⟩ = some k0a2 ∧ W.cell? ⟨b, o + 3, none⟩ = some k0a3 ∧ W.cell? ⟨b, o + 4, none⟩ = some k0a4 ∧ W.cell? ⟨b, o + 5, none⟩ = some k0a5 ∧ W.cell? ⟨b, o + 6, none⟩ = some k0a6 ∧ W.cell? ⟨b, o + 7, none⟩ = some k0a7 ∧ W.cell? ⟨b, o + 8, none⟩ = some k1a0 ∧ W.cell? ⟨b, o + 8 + 1, none⟩ = some k1a1 ∧ W.cell? ⟨b, o + 8 + 2, none⟩ = some k1a2 ∧ W.cell? ⟨b, o + 8 + 3, none⟩ = some k1a3 ∧ W.cell? ⟨b, o + 8 + 4, none⟩ = some k1a4 ∧ W.cell? ⟨b, o + 8 + 5, none⟩ = some k1a5 ∧ W.cell? ⟨b, o + 8 + 6, none⟩ = some k1a6 ∧ W.cell? ⟨b, o + 8 + 7, none⟩ = some k1a7 ∧ Below wa.heap.size wa W)
    (first | (with_reducible assumption) | (with_reducible exact K0) | (with_reducible exact KA))
    (first
      | (go_at_call 49; with_reducible refine (C0.out _ ?_).mono ?_; (with_reducible assumption); rintro e w10 ⟨rfl, hs10⟩)
      | (go_at_call 50; with_reducible refine (C1.out _ ?_).mono ?_; (with_reducible assumption); rintro e w11 ⟨rfl, hs11⟩))
  all_goals
    go_wp2_with fail
    go_ret
    exact ⟨rfl, HB.out.trans (below_le' (BSS.out _ (by with_reducible assumption)) HB.out.size)⟩

set_option maxRecDepth 100000 in
set_option maxHeartbeats 4000000 in
theorem bare_bin {N : Nat} (ih : ∀ N', N' < N → BareC N') (op ln : Int) (s : ByteArray) (k n : Int) (t : ByteArray) (v : VL) (va : Option Addr) (vc : Nat) (sub : NL) (sa : Option Addr) (sc : Nat) (ea : Nat → Addr) (w : World) (hN : sub.tot < N) (hsh : ShAt w ea) (hnd : NdIn w op ln s k n t v va vc sub sa sc) (hm : sub.len = 2) (hop : 5 ≤ op ∧ op ≤ 18) :
    Calls Tryz.prog 33 #[.agg #[.int .i64 op, .int .i64 ln, .string s, .int .i64 k, .int .i64 n, .string t, .slice va v.len vc, .slice sa sub.len sc]] w (SayT w (nodeT op s k n t v (ntx sub)).b) := by
  rw [hm]
  obtain ⟨wa, hwa⟩ : ∃ wa, wa = w.alloc (.cells #[.int .i64 op, .int .i64 ln, .string s, .int .i64 k, .int .i64 n, .string t, .slice va v.len vc, .slice sa 2 sc] 33) := ⟨_, rfl⟩
  have hb : Below w.heap.size w wa := by rw [hwa]; exact (Below.refl _ _).alloc (Nat.le_refl _) _
  have hN1 : NdB wa w.heap.size (.int .i64 op) (.int .i64 ln) (.string s) (.int .i64 k) (.int .i64 n) (.string t) (.slice va v.len vc) (.slice sa 2 sc) := by rw [hwa]; exact NdB.new _ _ _ _ _ _ _ _ _
  have v0 := hN1.c0; have v7 := hN1.c7
  have u0 := v0
  have hwz : w.heap.size < wa.heap.size := by rw [hwa]; simp
  rw [hwa] at v0 v7
  obtain ⟨b, o, hA⟩ := sa_of hnd (by omega)
  obtain ⟨k0a0, k0a1, k0a2, k0a3, k0a4, k0a5, k0a6, k0a7, hbl0, K0⟩ := kid_of ih hN (hsh.below hb) (hnd.below hb) 0 (by omega) hA
  obtain ⟨k1a0, k1a1, k1a2, k1a3, k1a4, k1a5, k1a6, k1a7, hbl1, K1⟩ := kid_of ih hN (hsh.below hb) (hnd.below hb) 1 (by omega) hA
  obtain ⟨x0, hx0⟩ : ∃ x, x = (ntx sub).getD 0 default := ⟨_, rfl⟩
  rw [← hx0] at K0
  rw [show o + 0 * 8 = o from by omega] at K0
  obtain ⟨x1, hx1⟩ : ∃ x, x = (ntx sub).getD 1 default := ⟨_, rfl⟩
  rw [← hx1] at K1
  rw [show o + 1 * 8 = o + 8 from rfl] at K1
  have HT := Lib.hid (show bs (nodeT op s k n t v (ntx sub)).b = bs (inT x0) ++ ⟨#[32]⟩ ++ bs (signT op) ++ ⟨#[32]⟩ ++ bs (inT x1) by
    have e : (nodeT op s k n t v (ntx sub)).b = inT x0 ++ [32] ++ signT op ++ [32] ++ inT x1 := by
      rw [hx0, hx1]
      show bareT _ _ _ _ = _
      unfold bareT
      simp only
      iterate 15 rw [if_neg (by omega)]
    rw [e]; apply ByteArray.ext; simp [bs])
  have SG := Lib.hid (fun W => sign_sc op W hop)
  have hsg : (bs (signT op)).size ≤ 2 := by rw [bs_size]; exact signT_len op
  rw [show SayT w (nodeT op s k n t v (ntx sub)).b = fun e w' => e = .returned (.string (bs (nodeT op s k n t v (ntx sub)).b)) ∧ Below w.heap.size w w' from rfl, HT.out]
  obtain ⟨c00, c01, c02, c03, c04, c05, c06, c07, ⟨z0a, z0b, z0c, z0d⟩, BC0, IC0, NC0, CC0⟩ := K0
  rw [← bs_size] at z0a
  rw [← bs_size] at z0b
  rw [← bs_size] at z0c
  rw [← bs_size] at z0d
  obtain ⟨c10, c11, c12, c13, c14, c15, c16, c17, ⟨z1a, z1b, z1c, z1d⟩, BC1, IC1, NC1, CC1⟩ := K1
  rw [← bs_size] at z1a
  rw [← bs_size] at z1b
  rw [← bs_size] at z1c
  rw [← bs_size] at z1d
  have s1 : ¬ (9223372036854775807 < (bs (inT x0)).size + 1) := by omega
  have s2 : ¬ (9223372036854775807 < (bs (inT x0)).size + 1 + (bs (signT op)).size) := by omega
  have s3 : ¬ (9223372036854775807 < (bs (inT x0)).size + 1 + (bs (signT op)).size + 1) := by omega
  have s4 : ¬ (9223372036854775807 < (bs (inT x0)).size + 1 + (bs (signT op)).size + 1 + (bs (inT x1)).size) := by omega
  obtain ⟨S, hS⟩ : ∃ S : World → Prop, S = fun W => W.cell? ⟨b, o, none⟩ = some k0a0 ∧ W.cell? ⟨b, o + 1, none⟩ = some k0a1 ∧ W.cell? ⟨b, o + 2, none⟩ = some k0a2 ∧ W.cell? ⟨b, o + 3, none⟩ = some k0a3 ∧ W.cell? ⟨b, o + 4, none⟩ = some k0a4 ∧ W.cell? ⟨b, o + 5, none⟩ = some k0a5 ∧ W.cell? ⟨b, o + 6, none⟩ = some k0a6 ∧ W.cell? ⟨b, o + 7, none⟩ = some k0a7 ∧ W.cell? ⟨b, o + 8, none⟩ = some k1a0 ∧ W.cell? ⟨b, o + 8 + 1, none⟩ = some k1a1 ∧ W.cell? ⟨b, o + 8 + 2, none⟩ = some k1a2 ∧ W.cell? ⟨b, o + 8 + 3, none⟩ = some k1a3 ∧ W.cell? ⟨b, o + 8 + 4, none⟩ = some k1a4 ∧ W.cell? ⟨b, o + 8 + 5, none⟩ = some k1a5 ∧ W.cell? ⟨b, o + 8 + 6, none⟩ = some k1a6 ∧ W.cell? ⟨b, o + 8 + 7, none⟩ = some k1a7 ∧ W.cell? ⟨w.heap.size, 0, none⟩ = some (.int .i64 op) ∧ Below wa.heap.size wa W := ⟨_, rfl⟩
  have KS : ∀ W, Below wa.heap.size wa W → S W := fun W h => by rw [hS]; exact ⟨cellB h c00 hbl0, cellB h c01 hbl0, cellB h c02 hbl0, cellB h c03 hbl0, cellB h c04 hbl0, cellB h c05 hbl0, cellB h c06 hbl0, cellB h c07 hbl0, cellB h c10 hbl1, cellB h c11 hbl1, cellB h c12 hbl1, cellB h c13 hbl1, cellB h c14 hbl1, cellB h c15 hbl1, cellB h c16 hbl1, cellB h c17 hbl1, cellB h u0 hwz, h⟩
  have BS : ∀ W, S W → Below wa.heap.size wa W := fun W h => by rw [hS] at h; exact h.2.2.2.2.2.2.2.2.2.2.2.2.2.2.2.2.2
  have C0 := Lib.hid (fun W (h : S W) => (IC0 W (BS W h)).mono (R' := fun e W' => e = .returned (.string (bs (inT x0))) ∧ S W') fun e W' ⟨h1, h2⟩ => ⟨h1, KS _ ((BS W h).trans (below_le' h2 (BS W h).size))⟩)
  have C1 := Lib.hid (fun W (h : S W) => (IC1 W (BS W h)).mono (R' := fun e W' => e = .returned (.string (bs (inT x1))) ∧ S W') fun e W' ⟨h1, h2⟩ => ⟨h1, KS _ ((BS W h).trans (below_le' h2 (BS W h).size))⟩)
  have CS := Lib.hid (fun W (h : S W) => (SG.out W).mono (R' := fun e W' => e = .returned (.string (bs (signT op))) ∧ S W') fun e W' ⟨h1, h2⟩ => ⟨h1, KS _ ((BS W h).trans (below_le' h2 (BS W h).size))⟩)
  have K0 : S wa.drew := KS _ ((Below.refl _ _).drew)
  have KA : S wa := KS _ (Below.refl _ _)
  have BSS := Lib.hid BS
  have HB := Lib.hid hb
  have HWA := Lib.hid hwa
  subst hA
  have i0 : 0 < sub.len := by omega
  have i1 : 1 < sub.len := by omega
  clear hm
  clear KS BS hb hN1 hwa hsh hnd hN ih HT BC0 IC0 NC0 CC0 BC1 IC1 NC1 CC1 hx0 hx1 u0 SG
  subst hS
  have q1 := beq_no (show op ≠ 1 by omega)
  have q2 := beq_no (show op ≠ 2 by omega)
  have q3 := beq_no (show op ≠ 3 by omega)
  have q4 := beq_no (show op ≠ 4 by omega)
  have q19 := beq_no (show op ≠ 19 by omega)
  have q20 := beq_no (show op ≠ 20 by omega)
  have q21 := beq_no (show op ≠ 21 by omega)
  have q22 := beq_no (show op ≠ 22 by omega)
  have q23 := beq_no (show op ≠ 23 by omega)
  have q24 := beq_no (show op ≠ 24 by omega)
  have q25 := beq_no (show op ≠ 25 by omega)
  have q26 := beq_no (show op ≠ 26 by omega)
  have q27 := beq_no (show op ≠ 27 by omega)
  have q28 := beq_no (show op ≠ 28 by omega)
  have q29 := beq_no (show op ≠ 29 by omega)
  clear hop
  go_enter Tryz.func33, Tryz.ntmps33
  go_wp2_with fail
  rw [← HWA.out]
  go_region_held3 (fun W => W.cell? ⟨b, o, none⟩ = some k0a0 ∧ W.cell? ⟨b, o + 1, none⟩ = some k0a1 ∧ W.cell? ⟨b, o + 2, none⟩ = some k0a2 ∧ W.cell? ⟨b, o + 3, none⟩ = some k0a3 ∧ W.cell? ⟨b, o + 4, none⟩ = some k0a4 ∧ W.cell? ⟨b, o + 5, none⟩ = some k0a5 ∧ W.cell? ⟨b, o + 6, none⟩ = some k0a6 ∧ W.cell? ⟨b, o + 7, none⟩ = some k0a7 ∧ W.cell? ⟨b, o + 8, none⟩ = some k1a0 ∧ W.cell? ⟨b, o + 8 + 1, none⟩ = some k1a1 ∧ W.cell? ⟨b, o + 8 + 2, none⟩ = some k1a2 ∧ W.cell? ⟨b, o + 8 + 3, none⟩ = some k1a3 ∧ W.cell? ⟨b, o + 8 + 4, none⟩ = some k1a4 ∧ W.cell? ⟨b, o + 8 + 5, none⟩ = some k1a5 ∧ W.cell? ⟨b, o + 8 + 6, none⟩ = some k1a6 ∧ W.cell? ⟨b, o + 8 + 7, none⟩ = some k1a7 ∧ W.cell? ⟨w.heap.size, 0, none⟩ = some (.int .i64 op) ∧ Below wa.heap.size wa W)
    (first | (with_reducible assumption) | (with_reducible exact K0) | (with_reducible exact KA))
    (first
      | (go_at_call 49; with_reducible refine (C0.out _ ?_).mono ?_; (with_reducible assumption); rintro e w10 ⟨rfl, hs10⟩)
      | (go_at_call 49; with_reducible refine (C1.out _ ?_).mono ?_; (with_reducible assumption); rintro e w11 ⟨rfl, hs11⟩)
      | (go_at_call 52; with_reducible refine (CS.out _ ?_).mono ?_; (with_reducible assumption); rintro e w19 ⟨rfl, hs19⟩))
  all_goals
    go_wp2_with fail
    go_ret
    exact ⟨rfl, HB.out.trans (below_le' (BSS.out _ (by with_reducible assumption)) HB.out.size)⟩
end Go.Proofs.YtgmnbdfbbcpciaaGreatDoor
namespace Go.Proofs.YtgmnbdfbbcpciaaGreatDoor
open Go.RowKit Go.Lib
set_option linter.unusedVariables false

set_option maxRecDepth 100000 in
set_option maxHeartbeats 2000000 in
theorem bare_1 (ln : Int) (s : ByteArray) (k n : Int) (t : ByteArray) (v : VL) (va : Option Addr) (vc : Nat) (sub : NL) (sa : Option Addr) (sc : Nat) (ea : Nat → Addr) (w : World) (hsh : ShAt w ea) (hnd : NdIn w 1 ln s k n t v va vc sub sa sc) :
    Calls Tryz.prog 33 #[.agg #[.int .i64 1, .int .i64 ln, .string s, .int .i64 k, .int .i64 n, .string t, .slice va v.len vc, .slice sa sub.len sc]] w (SayT w (nodeT 1 s k n t v (ntx sub)).b) := by
  obtain ⟨wa, hwa⟩ : ∃ wa, wa = w.alloc (.cells #[.int .i64 1, .int .i64 ln, .string s, .int .i64 k, .int .i64 n, .string t, .slice va v.len vc, .slice sa sub.len sc] 33) := ⟨_, rfl⟩
  have hb : Below w.heap.size w wa := by rw [hwa]; exact (Below.refl _ _).alloc (Nat.le_refl _) _
  have hN1 : NdB wa w.heap.size (.int .i64 1) (.int .i64 ln) (.string s) (.int .i64 k) (.int .i64 n) (.string t) (.slice va v.len vc) (.slice sa sub.len sc) := by rw [hwa]; exact NdB.new _ _ _ _ _ _ _ _ _
  have v0 := hN1.c0; have v3 := hN1.c3; have v4 := hN1.c4; have v5 := hN1.c5; have v6 := hN1.c6; have v7 := hN1.c7
  rw [hwa] at v0 v3 v4 v5 v6 v7
  obtain ⟨hw1, h64, hft⟩ := hnd.ex.2.2.1 rfl
  have hsa := hsh.below hb
  have TC := Lib.hid (Text_c k n t v va vc ea wa hsa.err hsa.tx hft h64 hnd.hvc (hnd.below hb).hv)
  have HT := Lib.hid (show bs (nodeT 1 s k n t v (ntx sub)).b = txtV k n t v by unfold txtV; rw [if_pos hw1]; rfl)
  rw [show SayT w (nodeT 1 s k n t v (ntx sub)).b = fun e w' => e = .returned (.string (bs (nodeT 1 s k n t v (ntx sub)).b)) ∧ Below w.heap.size w w' from rfl, HT.out]
  have HB := Lib.hid hb
  have HWA := Lib.hid hwa
  clear hb hN1 hwa hsh hnd hw1 h64 hft hsa
  go_enter Tryz.func33, Tryz.ntmps33
  go_wp2_with fail
  rw [← HWA.out]
  refine TC.out.mono ?_
  rintro e w10 ⟨rfl, hb10⟩
  have HB10 := Lib.hid (HB.out.trans (below_le' hb10 HB.out.size))
  clear hb10
  go_wp2_with fail
  go_ret
  exact ⟨rfl, HB10.out⟩

set_option maxRecDepth 100000 in
set_option maxHeartbeats 2000000 in
theorem bare_2 (ln : Int) (s : ByteArray) (k n : Int) (t : ByteArray) (v : VL) (va : Option Addr) (vc : Nat) (sub : NL) (sa : Option Addr) (sc : Nat) (w : World) :
    Calls Tryz.prog 33 #[.agg #[.int .i64 2, .int .i64 ln, .string s, .int .i64 k, .int .i64 n, .string t, .slice va v.len vc, .slice sa sub.len sc]] w (SayT w (nodeT 2 s k n t v (ntx sub)).b) := by
  obtain ⟨wa, hwa⟩ : ∃ wa, wa = w.alloc (.cells #[.int .i64 2, .int .i64 ln, .string s, .int .i64 k, .int .i64 n, .string t, .slice va v.len vc, .slice sa sub.len sc] 33) := ⟨_, rfl⟩
  have hb : Below w.heap.size w wa := by rw [hwa]; exact (Below.refl _ _).alloc (Nat.le_refl _) _
  have hN1 : NdB wa w.heap.size (.int .i64 2) (.int .i64 ln) (.string s) (.int .i64 k) (.int .i64 n) (.string t) (.slice va v.len vc) (.slice sa sub.len sc) := by rw [hwa]; exact NdB.new _ _ _ _ _ _ _ _ _
  have v0 := hN1.c0; have v2 := hN1.c2; have v7 := hN1.c7
  rw [hwa] at v0 v2 v7
  have HT := Lib.hid (show bs (nodeT 2 s k n t v (ntx sub)).b = s by show bs s.data.toList = s; apply ByteArray.ext; simp [bs])
  rw [show SayT w (nodeT 2 s k n t v (ntx sub)).b = fun e w' => e = .returned (.string (bs (nodeT 2 s k n t v (ntx sub)).b)) ∧ Below w.heap.size w w' from rfl, HT.out]
  have HB := Lib.hid hb
  have HWA := Lib.hid hwa
  clear hb hN1 hwa
  go_enter Tryz.func33, Tryz.ntmps33
  go_wp2_with fail
  rw [← HWA.out]
  go_ret
  exact ⟨rfl, HB.out⟩

set_option maxRecDepth 100000 in
set_option maxHeartbeats 2000000 in
theorem bare_25 {N : Nat} (ih : BareC N) (ln : Int) (s : ByteArray) (k n : Int) (t : ByteArray) (v : VL) (va : Option Addr) (vc : Nat) (sub : NL) (sa : Option Addr) (sc : Nat) (ea : Nat → Addr) (w : World) (hN : sub.tot ≤ N) (hsh : ShAt w ea) (hnd : NdIn w 25 ln s k n t v va vc sub sa sc) :
    Calls Tryz.prog 33 #[.agg #[.int .i64 25, .int .i64 ln, .string s, .int .i64 k, .int .i64 n, .string t, .slice va v.len vc, .slice sa sub.len sc]] w (SayT w (nodeT 25 s k n t v (ntx sub)).b) := by
  obtain ⟨wa, hwa⟩ : ∃ wa, wa = w.alloc (.cells #[.int .i64 25, .int .i64 ln, .string s, .int .i64 k, .int .i64 n, .string t, .slice va v.len vc, .slice sa sub.len sc] 33) := ⟨_, rfl⟩
  have hb : Below w.heap.size w wa := by rw [hwa]; exact (Below.refl _ _).alloc (Nat.le_refl _) _
  have hN1 : NdB wa w.heap.size (.int .i64 25) (.int .i64 ln) (.string s) (.int .i64 k) (.int .i64 n) (.string t) (.slice va v.len vc) (.slice sa sub.len sc) := by rw [hwa]; exact NdB.new _ _ _ _ _ _ _ _ _
  have v0 := hN1.c0; have v7 := hN1.c7
  rw [hwa] at v0 v7
  have hex := hnd.ex.2.2.2.2.2.1
  have RC := Lib.hid (row_of ih sub sa sc ea wa hN hnd.tot (hsh.below hb) hex hnd.hsc (hnd.below hb).hsub)
  have hrl := ex_row_len hex hnd.tot
  rw [← bs_size] at hrl
  have HT := Lib.hid (show bs (nodeT 25 s k n t v (ntx sub)).b = ⟨#[123]⟩ ++ bs (rowT (ntx sub)) ++ ⟨#[125]⟩ by
    have e : (nodeT 25 s k n t v (ntx sub)).b = [123] ++ rowT (ntx sub) ++ [125] := rfl
    rw [e]; apply ByteArray.ext; simp [bs])
  rw [show SayT w (nodeT 25 s k n t v (ntx sub)).b = fun e w' => e = .returned (.string (bs (nodeT 25 s k n t v (ntx sub)).b)) ∧ Below w.heap.size w w' from rfl, HT.out]
  have HB := Lib.hid hb
  have HWA := Lib.hid hwa
  clear hb hN1 hwa hsh hnd hex
  go_enter Tryz.func33, Tryz.ntmps33
  go_wp2_with fail
  rw [← HWA.out]
  refine RC.out.mono ?_
  rintro e w10 ⟨rfl, hb10⟩
  have HB10 := Lib.hid (HB.out.trans (below_le' hb10 HB.out.size))
  clear hb10
  go_wp2_with fail
  go_ret
  exact ⟨rfl, HB10.out⟩

theorem bs_head {l : List UInt8} (h : 0 < (bs l).size) : (bs l)[0] = l.getD 0 0 := by
  have hl : 0 < l.length := by rw [bs_size] at h; exact h
  rw [List.getD_eq_getElem?_getD, List.getElem?_eq_getElem hl]
  rfl

set_option maxRecDepth 100000 in
set_option maxHeartbeats 4000000 in
theorem bare_3 {N : Nat} (ih : ∀ N', N' < N → BareC N') (ln : Int) (s : ByteArray) (k n : Int) (t : ByteArray) (v : VL) (va : Option Addr) (vc : Nat) (sub : NL) (sa : Option Addr) (sc : Nat) (ea : Nat → Addr) (w : World) (hN : sub.tot < N) (hsh : ShAt w ea) (hnd : NdIn w 3 ln s k n t v va vc sub sa sc) (hm : sub.len = 1) :
    Calls Tryz.prog 33 #[.agg #[.int .i64 3, .int .i64 ln, .string s, .int .i64 k, .int .i64 n, .string t, .slice va v.len vc, .slice sa sub.len sc]] w (SayT w (nodeT 3 s k n t v (ntx sub)).b) := by
  rw [hm]
  obtain ⟨wa, hwa⟩ : ∃ wa, wa = w.alloc (.cells #[.int .i64 3, .int .i64 ln, .string s, .int .i64 k, .int .i64 n, .string t, .slice va v.len vc, .slice sa 1 sc] 33) := ⟨_, rfl⟩
  have hb : Below w.heap.size w wa := by rw [hwa]; exact (Below.refl _ _).alloc (Nat.le_refl _) _
  have hN1 : NdB wa w.heap.size (.int .i64 3) (.int .i64 ln) (.string s) (.int .i64 k) (.int .i64 n) (.string t) (.slice va v.len vc) (.slice sa 1 sc) := by rw [hwa]; exact NdB.new _ _ _ _ _ _ _ _ _
  have v0 := hN1.c0; have v7 := hN1.c7
  rw [hwa] at v0 v7
  obtain ⟨b, o, hA⟩ := sa_of hnd (by omega)
  obtain ⟨k0a0, k0a1, k0a2, k0a3, k0a4, k0a5, k0a6, k0a7, hbl0, K0⟩ := kid_of ih hN (hsh.below hb) (hnd.below hb) 0 (by omega) hA
  obtain ⟨x0, hx0⟩ : ∃ x, x = (ntx sub).getD 0 default := ⟨_, rfl⟩
  rw [← hx0] at K0
  rw [show o + 0 * 8 = o from by omega] at K0
  have hne : x0.b ≠ [] := by
    refine ex_ne sub hnd.ex.2.2.2.2.2.1 x0 ?_
    have hl : 0 < (ntx sub).length := by rw [ntx_len]; omega
    rw [hx0, List.getD_eq_getElem?_getD, List.getElem?_eq_getElem hl]
    exact List.getElem_mem hl
  have hne2 : inT x0 ≠ [] := by unfold inT; split <;> simp [brk, hne]
  have hpos : 0 < (bs (inT x0)).size := by rw [bs_size]; exact List.length_pos_iff.2 hne2
  have hHD := Lib.hid (bs_head hpos)
  have HT0 := Lib.hid (show (nodeT 3 s k n t v (ntx sub)).b = (if 48 ≤ (inT x0).getD 0 0 ∧ (inT x0).getD 0 0 ≤ 57 then 45 :: brk (inT x0) else 45 :: inT x0) by rw [hx0]; rfl)
  rw [show SayT w (nodeT 3 s k n t v (ntx sub)).b = fun e w' => e = .returned (.string (bs (nodeT 3 s k n t v (ntx sub)).b)) ∧ Below w.heap.size w w' from rfl, HT0.out]
  obtain ⟨c00, c01, c02, c03, c04, c05, c06, c07, ⟨z0a, z0b, z0c, z0d⟩, BC0, IC0, NC0, CC0⟩ := K0
  rw [← bs_size] at z0d
  have C0 := Lib.hid (IC0 wa (Below.refl _ _))
  have HB := Lib.hid hb
  have HWA := Lib.hid hwa
  subst hA
  have d0 := c00; have d1 := c01; have d2 := c02; have d3 := c03; have d4 := c04; have d5 := c05; have d6 := c06; have d7 := c07
  rw [hwa] at d0 d1 d2 d3 d4 d5 d6 d7
  have hcase : ((48 ≤ (inT x0).getD 0 0 ∧ (inT x0).getD 0 0 ≤ 57) ∧ (48 : Int) ≤ ((bs (inT x0))[0].toNat : Int) ∧ ((bs (inT x0))[0].toNat : Int) ≤ 57) ∨ (¬ (48 ≤ (inT x0).getD 0 0 ∧ (inT x0).getD 0 0 ≤ 57) ∧ ¬ ((48 : Int) ≤ ((bs (inT x0))[0].toNat : Int))) ∨ (¬ (48 ≤ (inT x0).getD 0 0 ∧ (inT x0).getD 0 0 ≤ 57) ∧ (48 : Int) ≤ ((bs (inT x0))[0].toNat : Int) ∧ ¬ (((bs (inT x0))[0].toNat : Int) ≤ 57)) := by
    rw [hHD.out]
    simp only [UInt8.le_iff_toNat_le]
    have e1 : (48 : UInt8).toNat = 48 := rfl
    have e2 : (57 : UInt8).toNat = 57 := rfl
    rw [e1, e2]
    omega
  clear hb hN1 hwa hsh hnd hN ih HT0 BC0 IC0 NC0 CC0 hx0 hm hne hne2 z0a z0b z0c hHD
  rcases hcase with ⟨hc, g1, g2⟩ | ⟨hc, g1⟩ | ⟨hc, g1, g2⟩
  · have HT := Lib.hid (show bs (if 48 ≤ (inT x0).getD 0 0 ∧ (inT x0).getD 0 0 ≤ 57 then 45 :: brk (inT x0) else 45 :: inT x0) = ⟨#[45, 40]⟩ ++ bs (inT x0) ++ ⟨#[41]⟩ by rw [if_pos hc]; unfold brk; apply ByteArray.ext; simp [bs])
    rw [HT.out]
    clear hc
    go_enter Tryz.func33, Tryz.ntmps33
    go_wp2_with fail
    rw [← HWA.out]
    refine C0.out.mono ?_
    rintro e w10 ⟨rfl, hb10⟩
    have HB10 := Lib.hid (HB.out.trans (below_le' hb10 HB.out.size))
    clear hb10
    go_wp2_with fail
    go_ret
    exact ⟨rfl, HB10.out⟩
  all_goals
    have HT := Lib.hid (show bs (if 48 ≤ (inT x0).getD 0 0 ∧ (inT x0).getD 0 0 ≤ 57 then 45 :: brk (inT x0) else 45 :: inT x0) = ⟨#[45]⟩ ++ bs (inT x0) by rw [if_neg hc]; apply ByteArray.ext; simp [bs])
    rw [HT.out]
    clear hc
    go_enter Tryz.func33, Tryz.ntmps33
    go_wp2_with fail
    rw [← HWA.out]
    refine C0.out.mono ?_
    rintro e w10 ⟨rfl, hb10⟩
    have HB10 := Lib.hid (HB.out.trans (below_le' hb10 HB.out.size))
    clear hb10
    go_wp2_with fail
    go_ret
    exact ⟨rfl, HB10.out⟩
end Go.Proofs.YtgmnbdfbbcpciaaGreatDoor
namespace Go.Proofs.YtgmnbdfbbcpciaaGreatDoor
open Go.RowKit Go.Lib
set_option linter.unusedVariables false
theorem ex_take {i : Nat} {l : NL} (h : ExN l) : ExN (l.take i) := by
  induction l generalizing i with
  | nil => cases i <;> exact trivial
  | cons op ln s k n t v sub r _ ih =>
    cases i with
    | zero => exact trivial
    | succ i =>
      obtain ⟨a1, a2, a3, a4, a5, a6, a7⟩ := h
      exact ⟨a1, a2, a3, a4, a5, a6, ih a7⟩
theorem tot_take (i : Nat) (l : NL) : (l.take i).tot ≤ l.tot := by
  induction l generalizing i with
  | nil => cases i <;> exact Nat.le_refl _
  | cons op ln s k n t v sub r _ ih =>
    cases i with
    | zero => exact Nat.zero_le _
    | succ i => have := ih i; simp only [NL.take, NL.tot]; omega
theorem len_take (i : Nat) (l : NL) (h : i ≤ l.len) : (l.take i).len = i := by
  have h2 : (l.take i).len + (l.drop i).len = l.len := by rw [← NL.len_app, NL.take_app_drop]
  rw [NL.len_drop] at h2; omega
theorem rp_take {w : World} {S : Nat → Prop} (i : Nat) (l : NL) (A : Option Addr) (h : RpN w S l A) : RpN w S (l.take i) A := by
  induction l generalizing i A with
  | nil => cases i <;> exact trivial
  | cons op ln s k n t v sub r _ ih =>
    cases i with
    | zero => exact trivial
    | succ i =>
      obtain ⟨b, o, va, vc, sa, sc, a0, a1, a2, a3, a4, a5, a6, a7, a8, a9, a10, a11, a12, a13, a14⟩ := h
      exact ⟨b, o, va, vc, sa, sc, a0, a1, a2, a3, a4, a5, a6, a7, a8, a9, a10, a11, a12, a13, ih i _ a14⟩
theorem ntx_take (i : Nat) (l : NL) : ntx (l.take i) = (ntx l).take i := by
  induction l generalizing i with
  | nil => cases i <;> rfl
  | cons op ln s k n t v sub r _ ih =>
    cases i with
    | zero => rfl
    | succ i => rw [NL.take, ntx, ih i]; rfl
theorem rp_drop2 {w : World} {S : Nat → Prop} (i : Nat) (l : NL) {b o : Nat} (h : RpN w S l (some ⟨b, o, none⟩)) : RpN w S (l.drop i) (some ⟨b, o + 8 * i, none⟩) := RpN.drop i l b o h

set_option maxRecDepth 100000 in
set_option maxHeartbeats 4000000 in
theorem bare_23a {N : Nat} (ih : ∀ N', N' < N → BareC N') (ln : Int) (s : ByteArray) (k n : Int) (t : ByteArray) (v : VL) (va : Option Addr) (vc : Nat) (sub : NL) (sa : Option Addr) (sc : Nat) (ea : Nat → Addr) (w : World) (hN : sub.tot < N) (hsh : ShAt w ea) (hnd : NdIn w 23 ln s k n t v va vc sub sa sc) (hm2 : 2 ≤ sub.len) (hs2 : sc = 2) :
    Calls Tryz.prog 33 #[.agg #[.int .i64 23, .int .i64 ln, .string s, .int .i64 k, .int .i64 n, .string t, .slice va v.len vc, .slice sa sub.len sc]] w (SayT w (nodeT 23 s k n t v (ntx sub)).b) := by
  obtain ⟨m, hm0⟩ : ∃ m, m = sub.len := ⟨_, rfl⟩
  rw [← hm0]
  obtain ⟨wa, hwa⟩ : ∃ wa, wa = w.alloc (.cells #[.int .i64 23, .int .i64 ln, .string s, .int .i64 k, .int .i64 n, .string t, .slice va v.len vc, .slice sa m sc] 33) := ⟨_, rfl⟩
  have hb : Below w.heap.size w wa := by rw [hwa]; exact (Below.refl _ _).alloc (Nat.le_refl _) _
  have hN1 : NdB wa w.heap.size (.int .i64 23) (.int .i64 ln) (.string s) (.int .i64 k) (.int .i64 n) (.string t) (.slice va v.len vc) (.slice sa m sc) := by rw [hwa]; exact NdB.new _ _ _ _ _ _ _ _ _
  have v0 := hN1.c0; have v2 := hN1.c2; have v7 := hN1.c7
  have u2 := v2
  have hwz : w.heap.size < wa.heap.size := by rw [hwa]; simp
  rw [hwa] at v0 v2 v7
  have hmc : m ≤ sc := by rw [hm0]; exact hnd.hsc
  have hex := hnd.ex.2.2.2.2.2.1
  have hnda := hnd.below hb
  have hsha := hsh.below hb
  have hlt := NL.len_tot sub
  have h4 := hnd.tot
  obtain ⟨b, o, hA⟩ := sa_of hnd (by omega)
  obtain ⟨k0a0, k0a1, k0a2, k0a3, k0a4, k0a5, k0a6, k0a7, hbl0, K0⟩ := kid_of ih hN hsha hnda 0 (by omega) hA
  obtain ⟨k1a0, k1a1, k1a2, k1a3, k1a4, k1a5, k1a6, k1a7, hbl1, K1⟩ := kid_of ih hN hsha hnda 1 (by omega) hA
  obtain ⟨x0, hx0⟩ : ∃ x, x = (ntx sub).getD 0 default := ⟨_, rfl⟩
  rw [← hx0] at K0
  rw [show o + 0 * 8 = o from by omega] at K0
  obtain ⟨x1, hx1⟩ : ∃ x, x = (ntx sub).getD 1 default := ⟨_, rfl⟩
  rw [← hx1] at K1
  rw [show o + 1 * 8 = o + 8 from by omega] at K1
  have hl0 : sub.drop 2 = .nil := by have h := NL.len_drop 2 sub; cases hq : sub.drop 2 with | nil => rfl | cons => rw [hq] at h; simp only [NL.len] at h; omega
  have RW := fun W (hW : Below wa.heap.size wa W) => row_of (ih sub.tot hN) (sub.drop 2) (some ⟨b, o, none⟩) (sc - 2) ea W (NL.tot_drop 2 sub) (Nat.le_trans (NL.tot_drop 2 sub) h4) (hsha.below hW) (ExN.drop 2 sub hex) (by rw [NL.len_drop]; omega) (by rw [hl0]; trivial)
  rw [NL.len_drop, ← hm0] at RW
  rw [show m - 2 = 0 by omega, show sc - 2 = 0 by omega] at RW
  have hrl := ex_row_len (ExN.drop 2 sub hex) (Nat.le_trans (NL.tot_drop 2 sub) h4)
  rw [← ntx_drop] at hrl RW
  obtain ⟨rt, hrt⟩ : ∃ rt, rt = rowT ((ntx sub).drop 2) := ⟨_, rfl⟩
  rw [← hrt] at hrl RW
  rw [← bs_size] at hrl
  have HT := Lib.hid (show bs (nodeT 23 s k n t v (ntx sub)).b = bs (inT x0) ++ ⟨#[58]⟩ ++ bs x1.nm ++ ⟨#[40]⟩ ++ bs rt ++ ⟨#[41]⟩ by
    have e : (nodeT 23 s k n t v (ntx sub)).b = inT x0 ++ [58] ++ x1.nm ++ [40] ++ rt ++ [41] := by rw [hx0, hx1, hrt]; rfl
    rw [e]; apply ByteArray.ext; simp [bs])
  rw [show SayT w (nodeT 23 s k n t v (ntx sub)).b = fun e w' => e = .returned (.string (bs (nodeT 23 s k n t v (ntx sub)).b)) ∧ Below w.heap.size w w' from rfl, HT.out]
  obtain ⟨c00, c01, c02, c03, c04, c05, c06, c07, ⟨z0a, z0b, z0c, z0d⟩, BC0, IC0, NC0, CC0⟩ := K0
  obtain ⟨c10, c11, c12, c13, c14, c15, c16, c17, ⟨z1a, z1b, z1c, z1d⟩, BC1, IC1, NC1, CC1⟩ := K1
  rw [← bs_size] at z0d z1b
  have s1 : ¬ (9223372036854775807 < (bs (inT x0)).size + 1) := by omega
  have s2 : ¬ (9223372036854775807 < (bs (inT x0)).size + 1 + (bs x1.nm).size) := by omega
  have s3 : ¬ (9223372036854775807 < (bs (inT x0)).size + 1 + (bs x1.nm).size + 1) := by omega
  have s4 : ¬ (9223372036854775807 < (bs (inT x0)).size + 1 + (bs x1.nm).size + 1 + (bs rt).size) := by omega
  have s5 : ¬ (9223372036854775807 < (bs (inT x0)).size + 1 + (bs x1.nm).size + 1 + (bs rt).size + 1) := by omega
  obtain ⟨S, hS⟩ : ∃ S : World → Prop, S = fun W => W.cell? ⟨b, o, none⟩ = some k0a0 ∧ W.cell? ⟨b, o + 1, none⟩ = some k0a1 ∧ W.cell? ⟨b, o + 2, none⟩ = some k0a2 ∧ W.cell? ⟨b, o + 3, none⟩ = some k0a3 ∧ W.cell? ⟨b, o + 4, none⟩ = some k0a4 ∧ W.cell? ⟨b, o + 5, none⟩ = some k0a5 ∧ W.cell? ⟨b, o + 6, none⟩ = some k0a6 ∧ W.cell? ⟨b, o + 7, none⟩ = some k0a7 ∧ W.cell? ⟨b, o + 8, none⟩ = some k1a0 ∧ W.cell? ⟨b, o + 8 + 1, none⟩ = some k1a1 ∧ W.cell? ⟨b, o + 8 + 2, none⟩ = some k1a2 ∧ W.cell? ⟨b, o + 8 + 3, none⟩ = some k1a3 ∧ W.cell? ⟨b, o + 8 + 4, none⟩ = some k1a4 ∧ W.cell? ⟨b, o + 8 + 5, none⟩ = some k1a5 ∧ W.cell? ⟨b, o + 8 + 6, none⟩ = some k1a6 ∧ W.cell? ⟨b, o + 8 + 7, none⟩ = some k1a7 ∧ Below wa.heap.size wa W := ⟨_, rfl⟩
  have KS : ∀ W, Below wa.heap.size wa W → S W := fun W h => by rw [hS]; exact ⟨cellB h c00 hbl0, cellB h c01 hbl0, cellB h c02 hbl0, cellB h c03 hbl0, cellB h c04 hbl0, cellB h c05 hbl0, cellB h c06 hbl0, cellB h c07 hbl0, cellB h c10 hbl1, cellB h c11 hbl1, cellB h c12 hbl1, cellB h c13 hbl1, cellB h c14 hbl1, cellB h c15 hbl1, cellB h c16 hbl1, cellB h c17 hbl1, h⟩
  have BS : ∀ W, S W → Below wa.heap.size wa W := fun W h => by rw [hS] at h; exact h.2.2.2.2.2.2.2.2.2.2.2.2.2.2.2.2
  have C0 := Lib.hid (fun W (h : S W) => (IC0 W (BS W h)).mono (R' := fun e W' => e = .returned (.string (bs (inT x0))) ∧ S W') fun e W' ⟨h1, h2⟩ => ⟨h1, KS _ ((BS W h).trans (below_le' h2 (BS W h).size))⟩)
  have C1 := Lib.hid (fun W (h : S W) => (NC1 W (BS W h)).mono (R' := fun e W' => e = .returned (.string (bs x1.nm)) ∧ S W') fun e W' ⟨h1, h2⟩ => ⟨h1, KS _ ((BS W h).trans (below_le' h2 (BS W h).size))⟩)
  have C2 := Lib.hid (fun W (h : S W) => (RW W (BS W h)).mono (R' := fun e W' => e = .returned (.string (bs rt)) ∧ S W') fun e W' ⟨h1, h2⟩ => ⟨h1, KS _ ((BS W h).trans (below_le' h2 (BS W h).size))⟩)
  have K0 : S wa.drew := KS _ ((Below.refl _ _).drew)
  have KA : S wa := KS _ (Below.refl _ _)
  have BSS := Lib.hid BS
  have HB := Lib.hid hb
  have HWA := Lib.hid hwa
  have i1 : 1 < m := by omega
  have i0 : 0 < m := by omega
  have i2 : 2 ≤ m := by omega
  have j1 : (1 : Int) < (m : Int) := by omega
  have j2 : (2 : Int) ≤ (m : Int) := by omega
  subst hA
  subst hs2
  clear KS BS hb hN1 hwa hsh hnd hN ih HT BC0 IC0 NC0 CC0 BC1 IC1 NC1 CC1 hx0 hx1 u2 RW hnda hsha hex hrt hlt h4 hm2 hm0 hl0
  subst hS
  go_enter Tryz.func33, Tryz.ntmps33
  go_wp2_with fail
  rw [← HWA.out]
  go_region_held3 (fun W => W.cell? ⟨b, o, none⟩ = some k0a0 ∧ W.cell? ⟨b, o + 1, none⟩ = some k0a1 ∧ W.cell? ⟨b, o + 2, none⟩ = some k0a2 ∧ W.cell? ⟨b, o + 3, none⟩ = some k0a3 ∧ W.cell? ⟨b, o + 4, none⟩ = some k0a4 ∧ W.cell? ⟨b, o + 5, none⟩ = some k0a5 ∧ W.cell? ⟨b, o + 6, none⟩ = some k0a6 ∧ W.cell? ⟨b, o + 7, none⟩ = some k0a7 ∧ W.cell? ⟨b, o + 8, none⟩ = some k1a0 ∧ W.cell? ⟨b, o + 8 + 1, none⟩ = some k1a1 ∧ W.cell? ⟨b, o + 8 + 2, none⟩ = some k1a2 ∧ W.cell? ⟨b, o + 8 + 3, none⟩ = some k1a3 ∧ W.cell? ⟨b, o + 8 + 4, none⟩ = some k1a4 ∧ W.cell? ⟨b, o + 8 + 5, none⟩ = some k1a5 ∧ W.cell? ⟨b, o + 8 + 6, none⟩ = some k1a6 ∧ W.cell? ⟨b, o + 8 + 7, none⟩ = some k1a7 ∧ Below wa.heap.size wa W)
    (first | (with_reducible assumption) | (with_reducible exact K0) | (with_reducible exact KA))
    (first
      | (go_at_call 49; with_reducible refine (C0.out _ ?_).mono ?_; (with_reducible assumption); rintro e w10 ⟨rfl, hs10⟩)
      | (go_at_call 50; with_reducible refine (C1.out _ ?_).mono ?_; (with_reducible assumption); rintro e w11 ⟨rfl, hs11⟩)
      | (go_at_call 51; with_reducible refine (C2.out _ ?_).mono ?_; (with_reducible assumption); rintro e w12 ⟨rfl, hs12⟩))
  all_goals
    go_wp2_with fail
    go_ret
    exact ⟨rfl, HB.out.trans (below_le' (BSS.out _ (by with_reducible assumption)) HB.out.size)⟩

set_option maxRecDepth 100000 in
set_option maxHeartbeats 4000000 in
theorem bare_23b {N : Nat} (ih : ∀ N', N' < N → BareC N') (ln : Int) (s : ByteArray) (k n : Int) (t : ByteArray) (v : VL) (va : Option Addr) (vc : Nat) (sub : NL) (sa : Option Addr) (sc : Nat) (ea : Nat → Addr) (w : World) (hN : sub.tot < N) (hsh : ShAt w ea) (hnd : NdIn w 23 ln s k n t v va vc sub sa sc) (hm2 : 2 ≤ sub.len) (hs2 : sc ≠ 2) :
    Calls Tryz.prog 33 #[.agg #[.int .i64 23, .int .i64 ln, .string s, .int .i64 k, .int .i64 n, .string t, .slice va v.len vc, .slice sa sub.len sc]] w (SayT w (nodeT 23 s k n t v (ntx sub)).b) := by
  obtain ⟨m, hm0⟩ : ∃ m, m = sub.len := ⟨_, rfl⟩
  rw [← hm0]
  obtain ⟨wa, hwa⟩ : ∃ wa, wa = w.alloc (.cells #[.int .i64 23, .int .i64 ln, .string s, .int .i64 k, .int .i64 n, .string t, .slice va v.len vc, .slice sa m sc] 33) := ⟨_, rfl⟩
  have hb : Below w.heap.size w wa := by rw [hwa]; exact (Below.refl _ _).alloc (Nat.le_refl _) _
  have hN1 : NdB wa w.heap.size (.int .i64 23) (.int .i64 ln) (.string s) (.int .i64 k) (.int .i64 n) (.string t) (.slice va v.len vc) (.slice sa m sc) := by rw [hwa]; exact NdB.new _ _ _ _ _ _ _ _ _
  have v0 := hN1.c0; have v2 := hN1.c2; have v7 := hN1.c7
  have u2 := v2
  have hwz : w.heap.size < wa.heap.size := by rw [hwa]; simp
  rw [hwa] at v0 v2 v7
  have hmc : m ≤ sc := by rw [hm0]; exact hnd.hsc
  have hex := hnd.ex.2.2.2.2.2.1
  have hnda := hnd.below hb
  have hsha := hsh.below hb
  have hlt := NL.len_tot sub
  have h4 := hnd.tot
  obtain ⟨b, o, hA⟩ := sa_of hnd (by omega)
  obtain ⟨k0a0, k0a1, k0a2, k0a3, k0a4, k0a5, k0a6, k0a7, hbl0, K0⟩ := kid_of ih hN hsha hnda 0 (by omega) hA
  obtain ⟨k1a0, k1a1, k1a2, k1a3, k1a4, k1a5, k1a6, k1a7, hbl1, K1⟩ := kid_of ih hN hsha hnda 1 (by omega) hA
  obtain ⟨x0, hx0⟩ : ∃ x, x = (ntx sub).getD 0 default := ⟨_, rfl⟩
  rw [← hx0] at K0
  rw [show o + 0 * 8 = o from by omega] at K0
  obtain ⟨x1, hx1⟩ : ∃ x, x = (ntx sub).getD 1 default := ⟨_, rfl⟩
  rw [← hx1] at K1
  rw [show o + 1 * 8 = o + 8 from by omega] at K1
  have hrd := rp_drop2 2 sub (by have h := hnda.hsub; rw [hA] at h; exact h)
  rw [show o + 8 * 2 = o + 16 from rfl] at hrd
  have RW := fun W (hW : Below wa.heap.size wa W) => row_of (ih sub.tot hN) (sub.drop 2) (some ⟨b, o + 16, none⟩) (sc - 2) ea W (NL.tot_drop 2 sub) (Nat.le_trans (NL.tot_drop 2 sub) h4) (hsha.below hW) (ExN.drop 2 sub hex) (by rw [NL.len_drop]; omega) (hrd.keep (fun b hb => hW.block b hb) (fun b hb => Nat.lt_of_lt_of_le hb hW.size))
  rw [NL.len_drop, ← hm0] at RW
  have hrl := ex_row_len (ExN.drop 2 sub hex) (Nat.le_trans (NL.tot_drop 2 sub) h4)
  rw [← ntx_drop] at hrl RW
  obtain ⟨rt, hrt⟩ : ∃ rt, rt = rowT ((ntx sub).drop 2) := ⟨_, rfl⟩
  rw [← hrt] at hrl RW
  rw [← bs_size] at hrl
  have HT := Lib.hid (show bs (nodeT 23 s k n t v (ntx sub)).b = bs (inT x0) ++ ⟨#[58]⟩ ++ bs x1.nm ++ ⟨#[40]⟩ ++ bs rt ++ ⟨#[41]⟩ by
    have e : (nodeT 23 s k n t v (ntx sub)).b = inT x0 ++ [58] ++ x1.nm ++ [40] ++ rt ++ [41] := by rw [hx0, hx1, hrt]; rfl
    rw [e]; apply ByteArray.ext; simp [bs])
  rw [show SayT w (nodeT 23 s k n t v (ntx sub)).b = fun e w' => e = .returned (.string (bs (nodeT 23 s k n t v (ntx sub)).b)) ∧ Below w.heap.size w w' from rfl, HT.out]
  obtain ⟨c00, c01, c02, c03, c04, c05, c06, c07, ⟨z0a, z0b, z0c, z0d⟩, BC0, IC0, NC0, CC0⟩ := K0
  obtain ⟨c10, c11, c12, c13, c14, c15, c16, c17, ⟨z1a, z1b, z1c, z1d⟩, BC1, IC1, NC1, CC1⟩ := K1
  rw [← bs_size] at z0d z1b
  have s1 : ¬ (9223372036854775807 < (bs (inT x0)).size + 1) := by omega
  have s2 : ¬ (9223372036854775807 < (bs (inT x0)).size + 1 + (bs x1.nm).size) := by omega
  have s3 : ¬ (9223372036854775807 < (bs (inT x0)).size + 1 + (bs x1.nm).size + 1) := by omega
  have s4 : ¬ (9223372036854775807 < (bs (inT x0)).size + 1 + (bs x1.nm).size + 1 + (bs rt).size) := by omega
  have s5 : ¬ (9223372036854775807 < (bs (inT x0)).size + 1 + (bs x1.nm).size + 1 + (bs rt).size + 1) := by omega
  obtain ⟨S, hS⟩ : ∃ S : World → Prop, S = fun W => W.cell? ⟨b, o, none⟩ = some k0a0 ∧ W.cell? ⟨b, o + 1, none⟩ = some k0a1 ∧ W.cell? ⟨b, o + 2, none⟩ = some k0a2 ∧ W.cell? ⟨b, o + 3, none⟩ = some k0a3 ∧ W.cell? ⟨b, o + 4, none⟩ = some k0a4 ∧ W.cell? ⟨b, o + 5, none⟩ = some k0a5 ∧ W.cell? ⟨b, o + 6, none⟩ = some k0a6 ∧ W.cell? ⟨b, o + 7, none⟩ = some k0a7 ∧ W.cell? ⟨b, o + 8, none⟩ = some k1a0 ∧ W.cell? ⟨b, o + 8 + 1, none⟩ = some k1a1 ∧ W.cell? ⟨b, o + 8 + 2, none⟩ = some k1a2 ∧ W.cell? ⟨b, o + 8 + 3, none⟩ = some k1a3 ∧ W.cell? ⟨b, o + 8 + 4, none⟩ = some k1a4 ∧ W.cell? ⟨b, o + 8 + 5, none⟩ = some k1a5 ∧ W.cell? ⟨b, o + 8 + 6, none⟩ = some k1a6 ∧ W.cell? ⟨b, o + 8 + 7, none⟩ = some k1a7 ∧ Below wa.heap.size wa W := ⟨_, rfl⟩
  have KS : ∀ W, Below wa.heap.size wa W → S W := fun W h => by rw [hS]; exact ⟨cellB h c00 hbl0, cellB h c01 hbl0, cellB h c02 hbl0, cellB h c03 hbl0, cellB h c04 hbl0, cellB h c05 hbl0, cellB h c06 hbl0, cellB h c07 hbl0, cellB h c10 hbl1, cellB h c11 hbl1, cellB h c12 hbl1, cellB h c13 hbl1, cellB h c14 hbl1, cellB h c15 hbl1, cellB h c16 hbl1, cellB h c17 hbl1, h⟩
  have BS : ∀ W, S W → Below wa.heap.size wa W := fun W h => by rw [hS] at h; exact h.2.2.2.2.2.2.2.2.2.2.2.2.2.2.2.2
  have C0 := Lib.hid (fun W (h : S W) => (IC0 W (BS W h)).mono (R' := fun e W' => e = .returned (.string (bs (inT x0))) ∧ S W') fun e W' ⟨h1, h2⟩ => ⟨h1, KS _ ((BS W h).trans (below_le' h2 (BS W h).size))⟩)
  have C1 := Lib.hid (fun W (h : S W) => (NC1 W (BS W h)).mono (R' := fun e W' => e = .returned (.string (bs x1.nm)) ∧ S W') fun e W' ⟨h1, h2⟩ => ⟨h1, KS _ ((BS W h).trans (below_le' h2 (BS W h).size))⟩)
  have C2 := Lib.hid (fun W (h : S W) => (RW W (BS W h)).mono (R' := fun e W' => e = .returned (.string (bs rt)) ∧ S W') fun e W' ⟨h1, h2⟩ => ⟨h1, KS _ ((BS W h).trans (below_le' h2 (BS W h).size))⟩)
  have K0 : S wa.drew := KS _ ((Below.refl _ _).drew)
  have KA : S wa := KS _ (Below.refl _ _)
  have BSS := Lib.hid BS
  have HB := Lib.hid hb
  have HWA := Lib.hid hwa
  have i1 : 1 < m := by omega
  have i0 : 0 < m := by omega
  have i2 : 2 ≤ m := by omega
  have j1 : (1 : Int) < (m : Int) := by omega
  have j2 : (2 : Int) ≤ (m : Int) := by omega
  subst hA
  clear KS BS hb hN1 hwa hsh hnd hN ih HT BC0 IC0 NC0 CC0 BC1 IC1 NC1 CC1 hx0 hx1 u2 RW hnda hsha hex hrt hlt h4 hm2 hm0 hrd
  subst hS
  go_enter Tryz.func33, Tryz.ntmps33
  go_wp2_with fail
  rw [← HWA.out]
  go_region_held3 (fun W => W.cell? ⟨b, o, none⟩ = some k0a0 ∧ W.cell? ⟨b, o + 1, none⟩ = some k0a1 ∧ W.cell? ⟨b, o + 2, none⟩ = some k0a2 ∧ W.cell? ⟨b, o + 3, none⟩ = some k0a3 ∧ W.cell? ⟨b, o + 4, none⟩ = some k0a4 ∧ W.cell? ⟨b, o + 5, none⟩ = some k0a5 ∧ W.cell? ⟨b, o + 6, none⟩ = some k0a6 ∧ W.cell? ⟨b, o + 7, none⟩ = some k0a7 ∧ W.cell? ⟨b, o + 8, none⟩ = some k1a0 ∧ W.cell? ⟨b, o + 8 + 1, none⟩ = some k1a1 ∧ W.cell? ⟨b, o + 8 + 2, none⟩ = some k1a2 ∧ W.cell? ⟨b, o + 8 + 3, none⟩ = some k1a3 ∧ W.cell? ⟨b, o + 8 + 4, none⟩ = some k1a4 ∧ W.cell? ⟨b, o + 8 + 5, none⟩ = some k1a5 ∧ W.cell? ⟨b, o + 8 + 6, none⟩ = some k1a6 ∧ W.cell? ⟨b, o + 8 + 7, none⟩ = some k1a7 ∧ Below wa.heap.size wa W)
    (first | (with_reducible assumption) | (with_reducible exact K0) | (with_reducible exact KA))
    (first
      | (go_at_call 49; with_reducible refine (C0.out _ ?_).mono ?_; (with_reducible assumption); rintro e w10 ⟨rfl, hs10⟩)
      | (go_at_call 50; with_reducible refine (C1.out _ ?_).mono ?_; (with_reducible assumption); rintro e w11 ⟨rfl, hs11⟩)
      | (go_at_call 51; with_reducible refine (C2.out _ ?_).mono ?_; (with_reducible assumption); rintro e w12 ⟨rfl, hs12⟩))
  all_goals
    go_wp2_with fail
    go_ret
    exact ⟨rfl, HB.out.trans (below_le' (BSS.out _ (by with_reducible assumption)) HB.out.size)⟩

theorem bare_23 {N : Nat} (ih : ∀ N', N' < N → BareC N') (ln : Int) (s : ByteArray) (k n : Int) (t : ByteArray) (v : VL) (va : Option Addr) (vc : Nat) (sub : NL) (sa : Option Addr) (sc : Nat) (ea : Nat → Addr) (w : World) (hN : sub.tot < N) (hsh : ShAt w ea) (hnd : NdIn w 23 ln s k n t v va vc sub sa sc) (hm2 : 2 ≤ sub.len) :
    Calls Tryz.prog 33 #[.agg #[.int .i64 23, .int .i64 ln, .string s, .int .i64 k, .int .i64 n, .string t, .slice va v.len vc, .slice sa sub.len sc]] w (SayT w (nodeT 23 s k n t v (ntx sub)).b) := by
  by_cases h : sc = 2
  · exact bare_23a ih ln s k n t v va vc sub sa sc ea w hN hsh hnd hm2 h
  · exact bare_23b ih ln s k n t v va vc sub sa sc ea w hN hsh hnd hm2 h

set_option maxRecDepth 100000 in
set_option maxHeartbeats 4000000 in
theorem bare_24 {N : Nat} (ih : ∀ N', N' < N → BareC N') (ln : Int) (s : ByteArray) (k n : Int) (t : ByteArray) (v : VL) (va : Option Addr) (vc : Nat) (sub : NL) (sa : Option Addr) (sc : Nat) (ea : Nat → Addr) (w : World) (hN : sub.tot < N) (hsh : ShAt w ea) (hnd : NdIn w 24 ln s k n t v va vc sub sa sc) :
    Calls Tryz.prog 33 #[.agg #[.int .i64 24, .int .i64 ln, .string s, .int .i64 k, .int .i64 n, .string t, .slice va v.len vc, .slice sa sub.len sc]] w (SayT w (nodeT 24 s k n t v (ntx sub)).b) := by
  obtain ⟨m, hm0⟩ : ∃ m, m = sub.len := ⟨_, rfl⟩
  rw [← hm0]
  obtain ⟨wa, hwa⟩ : ∃ wa, wa = w.alloc (.cells #[.int .i64 24, .int .i64 ln, .string s, .int .i64 k, .int .i64 n, .string t, .slice va v.len vc, .slice sa m sc] 33) := ⟨_, rfl⟩
  have hb : Below w.heap.size w wa := by rw [hwa]; exact (Below.refl _ _).alloc (Nat.le_refl _) _
  have hN1 : NdB wa w.heap.size (.int .i64 24) (.int .i64 ln) (.string s) (.int .i64 k) (.int .i64 n) (.string t) (.slice va v.len vc) (.slice sa m sc) := by rw [hwa]; exact NdB.new _ _ _ _ _ _ _ _ _
  have v0 := hN1.c0; have v2 := hN1.c2; have v7 := hN1.c7
  have u2 := v2
  have hwz : w.heap.size < wa.heap.size := by rw [hwa]; simp
  rw [hwa] at v0 v2 v7
  have hmc : m ≤ sc := by rw [hm0]; exact hnd.hsc
  have hex := hnd.ex.2.2.2.2.2.1
  have hnda := hnd.below hb
  have hsha := hsh.below hb
  have hlt := NL.len_tot sub
  have h4 := hnd.tot
  have RW := fun W (hW : Below wa.heap.size wa W) => row_of (ih sub.tot hN) sub sa sc ea W (Nat.le_refl _) h4 (hsha.below hW) hex hnd.hsc (hnda.below hW).hsub
  rw [← hm0] at RW
  have hrl := ex_row_len hex h4
  rw [← bs_size] at hrl
  have hss := hnd.ex.2.2.2.2.1
  obtain ⟨rt, hrt⟩ : ∃ rt, rt = rowT (ntx sub) := ⟨_, rfl⟩
  rw [← hrt] at hrl RW
  have HT := Lib.hid (show bs (nodeT 24 s k n t v (ntx sub)).b = s ++ ⟨#[40]⟩ ++ bs rt ++ ⟨#[41]⟩ by
    have e : (nodeT 24 s k n t v (ntx sub)).b = s.data.toList ++ [40] ++ rt ++ [41] := by rw [hrt]; rfl
    rw [e]; apply ByteArray.ext; simp [bs])
  rw [show SayT w (nodeT 24 s k n t v (ntx sub)).b = fun e w' => e = .returned (.string (bs (nodeT 24 s k n t v (ntx sub)).b)) ∧ Below w.heap.size w w' from rfl, HT.out]
  have s1 : ¬ (9223372036854775807 < s.size + 1) := by omega
  have s2 : ¬ (9223372036854775807 < s.size + 1 + (bs rt).size) := by omega
  have s3 : ¬ (9223372036854775807 < s.size + 1 + (bs rt).size + 1) := by omega
  obtain ⟨S, hS⟩ : ∃ S : World → Prop, S = fun W => W.cell? ⟨w.heap.size, 2, none⟩ = some (.string s) ∧ Below wa.heap.size wa W := ⟨_, rfl⟩
  have KS : ∀ W, Below wa.heap.size wa W → S W := fun W h => by rw [hS]; exact ⟨cellB h u2 hwz, h⟩
  have BS : ∀ W, S W → Below wa.heap.size wa W := fun W h => by rw [hS] at h; exact h.2
  have C0 := Lib.hid (fun W (h : S W) => (RW W (BS W h)).mono (R' := fun e W' => e = .returned (.string (bs rt)) ∧ S W') fun e W' ⟨h1, h2⟩ => ⟨h1, KS _ ((BS W h).trans (below_le' h2 (BS W h).size))⟩)
  have K0 : S wa.drew := KS _ ((Below.refl _ _).drew)
  have KA : S wa := KS _ (Below.refl _ _)
  have BSS := Lib.hid BS
  have HB := Lib.hid hb
  have HWA := Lib.hid hwa
  clear KS BS hb hN1 hwa hsh hnd hN ih HT u2 RW hnda hsha hex hrt hlt h4 hm0
  subst hS
  go_enter Tryz.func33, Tryz.ntmps33
  go_wp2_with fail
  rw [← HWA.out]
  go_region_held3 (fun W => W.cell? ⟨w.heap.size, 2, none⟩ = some (.string s) ∧ Below wa.heap.size wa W)
    (first | (with_reducible assumption) | (with_reducible exact K0) | (with_reducible exact KA))
    (first
      | (go_at_call 51; with_reducible refine (C0.out _ ?_).mono ?_; (with_reducible assumption); rintro e w10 ⟨rfl, hs10⟩))
  all_goals
    go_wp2_with fail
    go_ret
    exact ⟨rfl, HB.out.trans (below_le' (BSS.out _ (by with_reducible assumption)) HB.out.size)⟩

set_option maxRecDepth 100000 in
set_option maxHeartbeats 4000000 in
theorem bare_28 {N : Nat} (ih : ∀ N', N' < N → BareC N') (ln : Int) (s : ByteArray) (k n : Int) (t : ByteArray) (v : VL) (va : Option Addr) (vc : Nat) (sub : NL) (sa : Option Addr) (sc : Nat) (ea : Nat → Addr) (w : World) (hN : sub.tot < N) (hsh : ShAt w ea) (hnd : NdIn w 28 ln s k n t v va vc sub sa sc) (hm2 : 2 ≤ sub.len) :
    Calls Tryz.prog 33 #[.agg #[.int .i64 28, .int .i64 ln, .string s, .int .i64 k, .int .i64 n, .string t, .slice va v.len vc, .slice sa sub.len sc]] w (SayT w (nodeT 28 s k n t v (ntx sub)).b) := by
  obtain ⟨m, hm0⟩ : ∃ m, m = sub.len := ⟨_, rfl⟩
  rw [← hm0]
  obtain ⟨wa, hwa⟩ : ∃ wa, wa = w.alloc (.cells #[.int .i64 28, .int .i64 ln, .string s, .int .i64 k, .int .i64 n, .string t, .slice va v.len vc, .slice sa m sc] 33) := ⟨_, rfl⟩
  have hb : Below w.heap.size w wa := by rw [hwa]; exact (Below.refl _ _).alloc (Nat.le_refl _) _
  have hN1 : NdB wa w.heap.size (.int .i64 28) (.int .i64 ln) (.string s) (.int .i64 k) (.int .i64 n) (.string t) (.slice va v.len vc) (.slice sa m sc) := by rw [hwa]; exact NdB.new _ _ _ _ _ _ _ _ _
  have v0 := hN1.c0; have v2 := hN1.c2; have v7 := hN1.c7
  have u2 := v2
  have hwz : w.heap.size < wa.heap.size := by rw [hwa]; simp
  rw [hwa] at v0 v2 v7
  have hmc : m ≤ sc := by rw [hm0]; exact hnd.hsc
  have hex := hnd.ex.2.2.2.2.2.1
  have hnda := hnd.below hb
  have hsha := hsh.below hb
  have hlt := NL.len_tot sub
  have h4 := hnd.tot
  obtain ⟨b, o, hA⟩ := sa_of hnd (by omega)
  obtain ⟨q, hq⟩ : ∃ q, m = q + 1 := ⟨m - 1, by omega⟩
  obtain ⟨k0a0, k0a1, k0a2, k0a3, k0a4, k0a5, k0a6, k0a7, hbl0, K0⟩ := kid_of ih hN hsha hnda q (by omega) hA
  obtain ⟨x0, hx0⟩ : ∃ x, x = (ntx sub).getD q default := ⟨_, rfl⟩
  rw [← hx0] at K0
  have RW := fun W (hW : Below wa.heap.size wa W) => row_of (ih sub.tot hN) (sub.take q) (some ⟨b, o, none⟩) sc ea W (tot_take q sub) (Nat.le_trans (tot_take q sub) h4) (hsha.below hW) (ex_take hex) (by rw [len_take q sub (by omega)]; omega) (rp_take q sub _ (by have h := (hnda.below hW).hsub; rw [hA] at h; exact h))
  rw [len_take q sub (by omega)] at RW
  have hrl := ex_row_len (ex_take (i := q) hex) (Nat.le_trans (tot_take q sub) h4)
  rw [ntx_take] at hrl RW
  obtain ⟨rt, hrt⟩ : ∃ rt, rt = rowT ((ntx sub).take q) := ⟨_, rfl⟩
  rw [← hrt] at hrl RW
  rw [← bs_size] at hrl
  have HT := Lib.hid (show bs (nodeT 28 s k n t v (ntx sub)).b = ⟨#[123]⟩ ++ bs rt ++ ⟨#[125, 32, 61, 32]⟩ ++ bs x0.b by
    have e : (nodeT 28 s k n t v (ntx sub)).b = [123] ++ rt ++ [125, 32, 61, 32] ++ x0.b := by
      have h : (nodeT 28 s k n t v (ntx sub)).b = [123] ++ rowT ((ntx sub).take ((ntx sub).length - 1)) ++ [125, 32, 61, 32] ++ ((ntx sub).getD ((ntx sub).length - 1) default).b := rfl
      rw [h, ntx_len, show sub.len - 1 = q by omega, ← hrt, ← hx0]
    rw [e]; apply ByteArray.ext; simp [bs])
  rw [show SayT w (nodeT 28 s k n t v (ntx sub)).b = fun e w' => e = .returned (.string (bs (nodeT 28 s k n t v (ntx sub)).b)) ∧ Below w.heap.size w w' from rfl, HT.out]
  obtain ⟨c00, c01, c02, c03, c04, c05, c06, c07, ⟨z0a, z0b, z0c, z0d⟩, BC0, IC0, NC0, CC0⟩ := K0
  rw [← bs_size] at z0a
  have s1 : ¬ (9223372036854775807 < 1 + (bs rt).size) := by omega
  have s2 : ¬ (9223372036854775807 < 1 + (bs rt).size + 4) := by omega
  have s3 : ¬ (9223372036854775807 < 1 + (bs rt).size + 4 + (bs x0.b).size) := by omega
  obtain ⟨S, hS⟩ : ∃ S : World → Prop, S = fun W => W.cell? ⟨b, o + q * 8, none⟩ = some k0a0 ∧ W.cell? ⟨b, o + q * 8 + 1, none⟩ = some k0a1 ∧ W.cell? ⟨b, o + q * 8 + 2, none⟩ = some k0a2 ∧ W.cell? ⟨b, o + q * 8 + 3, none⟩ = some k0a3 ∧ W.cell? ⟨b, o + q * 8 + 4, none⟩ = some k0a4 ∧ W.cell? ⟨b, o + q * 8 + 5, none⟩ = some k0a5 ∧ W.cell? ⟨b, o + q * 8 + 6, none⟩ = some k0a6 ∧ W.cell? ⟨b, o + q * 8 + 7, none⟩ = some k0a7 ∧ Below wa.heap.size wa W := ⟨_, rfl⟩
  have KS : ∀ W, Below wa.heap.size wa W → S W := fun W h => by rw [hS]; exact ⟨cellB h c00 hbl0, cellB h c01 hbl0, cellB h c02 hbl0, cellB h c03 hbl0, cellB h c04 hbl0, cellB h c05 hbl0, cellB h c06 hbl0, cellB h c07 hbl0, h⟩
  have BS : ∀ W, S W → Below wa.heap.size wa W := fun W h => by rw [hS] at h; exact h.2.2.2.2.2.2.2.2
  have C0 := Lib.hid (fun W (h : S W) => (RW W (BS W h)).mono (R' := fun e W' => e = .returned (.string (bs rt)) ∧ S W') fun e W' ⟨h1, h2⟩ => ⟨h1, KS _ ((BS W h).trans (below_le' h2 (BS W h).size))⟩)
  have C1 := Lib.hid (fun W (h : S W) => (BC0 W (BS W h)).mono (R' := fun e W' => e = .returned (.string (bs x0.b)) ∧ S W') fun e W' ⟨h1, h2⟩ => ⟨h1, KS _ ((BS W h).trans (below_le' h2 (BS W h).size))⟩)
  have K0 : S wa.drew := KS _ ((Below.refl _ _).drew)
  have KA : S wa := KS _ (Below.refl _ _)
  have BSS := Lib.hid BS
  have HB := Lib.hid hb
  have HWA := Lib.hid hwa
  have e1 : IntKind.i64.wrap ((m : Int) - 1) = (q : Int) := by rw [show (m : Int) - 1 = (q : Int) by omega]; exact IntWalk.i64_in _ (by omega)
  have i1 : q < m := by omega
  have i2 : q ≤ sc := by omega
  have i3 : (q : Int) ≤ (sc : Int) := by omega
  have i4 : sc ≠ 0 := by omega
  have i5 : (q : Int) < (m : Int) := by omega
  subst hA
  clear KS BS hb hN1 hwa hsh hnd hN ih HT BC0 IC0 NC0 CC0 hx0 u2 RW hnda hsha hex hrt hlt h4 hm2 hq hm0
  subst hS
  go_enter Tryz.func33, Tryz.ntmps33
  go_wp2_with fail
  rw [← HWA.out]
  go_region_held3 (fun W => W.cell? ⟨b, o + q * 8, none⟩ = some k0a0 ∧ W.cell? ⟨b, o + q * 8 + 1, none⟩ = some k0a1 ∧ W.cell? ⟨b, o + q * 8 + 2, none⟩ = some k0a2 ∧ W.cell? ⟨b, o + q * 8 + 3, none⟩ = some k0a3 ∧ W.cell? ⟨b, o + q * 8 + 4, none⟩ = some k0a4 ∧ W.cell? ⟨b, o + q * 8 + 5, none⟩ = some k0a5 ∧ W.cell? ⟨b, o + q * 8 + 6, none⟩ = some k0a6 ∧ W.cell? ⟨b, o + q * 8 + 7, none⟩ = some k0a7 ∧ Below wa.heap.size wa W)
    (first | (with_reducible assumption) | (with_reducible exact K0) | (with_reducible exact KA))
    (first
      | (go_at_call 51; with_reducible refine (C0.out _ ?_).mono ?_; (with_reducible assumption); rintro e w10 ⟨rfl, hs10⟩)
      | (go_at_call 33; with_reducible refine (C1.out _ ?_).mono ?_; (with_reducible assumption); rintro e w11 ⟨rfl, hs11⟩))
  all_goals
    go_wp2_with fail
    go_ret
    exact ⟨rfl, HB.out.trans (below_le' (BSS.out _ (by with_reducible assumption)) HB.out.size)⟩
end Go.Proofs.YtgmnbdfbbcpciaaGreatDoor
namespace Go.Proofs.YtgmnbdfbbcpciaaGreatDoor
open Go.RowKit Go.Lib
set_option linter.unusedVariables false

set_option maxRecDepth 100000 in
set_option maxHeartbeats 4000000 in
theorem bare_29_2 {N : Nat} (ih : ∀ N', N' < N → BareC N') (ln : Int) (s : ByteArray) (k n : Int) (t : ByteArray) (v : VL) (va : Option Addr) (vc : Nat) (sub : NL) (sa : Option Addr) (sc : Nat) (ea : Nat → Addr) (w : World) (hN : sub.tot < N) (hsh : ShAt w ea) (hnd : NdIn w 29 ln s k n t v va vc sub sa sc) (hm : sub.len = 2) :
    Calls Tryz.prog 33 #[.agg #[.int .i64 29, .int .i64 ln, .string s, .int .i64 k, .int .i64 n, .string t, .slice va v.len vc, .slice sa sub.len sc]] w (SayT w (nodeT 29 s k n t v (ntx sub)).b) := by
  rw [hm]
  obtain ⟨wa, hwa⟩ : ∃ wa, wa = w.alloc (.cells #[.int .i64 29, .int .i64 ln, .string s, .int .i64 k, .int .i64 n, .string t, .slice va v.len vc, .slice sa 2 sc] 33) := ⟨_, rfl⟩
  have hb : Below w.heap.size w wa := by rw [hwa]; exact (Below.refl _ _).alloc (Nat.le_refl _) _
  have hN1 : NdB wa w.heap.size (.int .i64 29) (.int .i64 ln) (.string s) (.int .i64 k) (.int .i64 n) (.string t) (.slice va v.len vc) (.slice sa 2 sc) := by rw [hwa]; exact NdB.new _ _ _ _ _ _ _ _ _
  have v0 := hN1.c0; have v2 := hN1.c2; have v7 := hN1.c7
  have u2 := v2
  have hwz : w.heap.size < wa.heap.size := by rw [hwa]; simp
  rw [hwa] at v0 v2 v7
  have hex := hnd.ex.2.2.2.2.2.1
  have hnda := hnd.below hb
  have hsha := hsh.below hb
  have hlt := NL.len_tot sub
  have h4 := hnd.tot
  obtain ⟨b, o, hA⟩ := sa_of hnd (by omega)
  obtain ⟨k0a0, k0a1, k0a2, k0a3, k0a4, k0a5, k0a6, k0a7, hbl0, K0⟩ := kid_of ih hN hsha hnda 0 (by omega) hA
  obtain ⟨k1a0, k1a1, k1a2, k1a3, k1a4, k1a5, k1a6, k1a7, hbl1, K1⟩ := kid_of ih hN hsha hnda 1 (by omega) hA
  obtain ⟨x0, hx0⟩ : ∃ x, x = (ntx sub).getD 0 default := ⟨_, rfl⟩
  rw [← hx0] at K0
  rw [show o + 0 * 8 = o from by omega] at K0
  obtain ⟨x1, hx1⟩ : ∃ x, x = (ntx sub).getD 1 default := ⟨_, rfl⟩
  rw [← hx1] at K1
  rw [show o + 1 * 8 = o + 8 from by omega] at K1
  have HT := Lib.hid (show bs (nodeT 29 s k n t v (ntx sub)).b = ⟨#[96]⟩ ++ bs (inT x0) ++ ⟨#[32, 33, 32]⟩ ++ bs x1.cd ++ ⟨#[39]⟩ by
    have e : (nodeT 29 s k n t v (ntx sub)).b = [96] ++ inT x0 ++ [32, 33, 32] ++ x1.cd ++ [] ++ [39] := by
      have h : (nodeT 29 s k n t v (ntx sub)).b = [96] ++ inT ((ntx sub).getD 0 default) ++ [32, 33, 32] ++ ((ntx sub).getD 1 default).cd ++ (if 2 < (ntx sub).length then [32, 61, 62, 32] ++ inT ((ntx sub).getD 2 default) else []) ++ [39] := rfl
      rw [h, if_neg (by rw [ntx_len]; omega), ← hx0, ← hx1]
    rw [e]; apply ByteArray.ext; simp [bs])
  rw [show SayT w (nodeT 29 s k n t v (ntx sub)).b = fun e w' => e = .returned (.string (bs (nodeT 29 s k n t v (ntx sub)).b)) ∧ Below w.heap.size w w' from rfl, HT.out]
  obtain ⟨c00, c01, c02, c03, c04, c05, c06, c07, ⟨z0a, z0b, z0c, z0d⟩, BC0, IC0, NC0, CC0⟩ := K0
  obtain ⟨c10, c11, c12, c13, c14, c15, c16, c17, ⟨z1a, z1b, z1c, z1d⟩, BC1, IC1, NC1, CC1⟩ := K1
  rw [← bs_size] at z0d z1c
  have s1 : ¬ (9223372036854775807 < 1 + (bs (inT x0)).size) := by omega
  have s2 : ¬ (9223372036854775807 < 1 + (bs (inT x0)).size + 3) := by omega
  have s3 : ¬ (9223372036854775807 < 1 + (bs (inT x0)).size + 3 + (bs x1.cd).size) := by omega
  obtain ⟨S, hS⟩ : ∃ S : World → Prop, S = fun W => W.cell? ⟨b, o, none⟩ = some k0a0 ∧ W.cell? ⟨b, o + 1, none⟩ = some k0a1 ∧ W.cell? ⟨b, o + 2, none⟩ = some k0a2 ∧ W.cell? ⟨b, o + 3, none⟩ = some k0a3 ∧ W.cell? ⟨b, o + 4, none⟩ = some k0a4 ∧ W.cell? ⟨b, o + 5, none⟩ = some k0a5 ∧ W.cell? ⟨b, o + 6, none⟩ = some k0a6 ∧ W.cell? ⟨b, o + 7, none⟩ = some k0a7 ∧ W.cell? ⟨b, o + 8, none⟩ = some k1a0 ∧ W.cell? ⟨b, o + 8 + 1, none⟩ = some k1a1 ∧ W.cell? ⟨b, o + 8 + 2, none⟩ = some k1a2 ∧ W.cell? ⟨b, o + 8 + 3, none⟩ = some k1a3 ∧ W.cell? ⟨b, o + 8 + 4, none⟩ = some k1a4 ∧ W.cell? ⟨b, o + 8 + 5, none⟩ = some k1a5 ∧ W.cell? ⟨b, o + 8 + 6, none⟩ = some k1a6 ∧ W.cell? ⟨b, o + 8 + 7, none⟩ = some k1a7 ∧ Below wa.heap.size wa W := ⟨_, rfl⟩
  have KS : ∀ W, Below wa.heap.size wa W → S W := fun W h => by rw [hS]; exact ⟨cellB h c00 hbl0, cellB h c01 hbl0, cellB h c02 hbl0, cellB h c03 hbl0, cellB h c04 hbl0, cellB h c05 hbl0, cellB h c06 hbl0, cellB h c07 hbl0, cellB h c10 hbl1, cellB h c11 hbl1, cellB h c12 hbl1, cellB h c13 hbl1, cellB h c14 hbl1, cellB h c15 hbl1, cellB h c16 hbl1, cellB h c17 hbl1, h⟩
  have BS : ∀ W, S W → Below wa.heap.size wa W := fun W h => by rw [hS] at h; exact h.2.2.2.2.2.2.2.2.2.2.2.2.2.2.2.2
  have C0 := Lib.hid (fun W (h : S W) => (IC0 W (BS W h)).mono (R' := fun e W' => e = .returned (.string (bs (inT x0))) ∧ S W') fun e W' ⟨h1, h2⟩ => ⟨h1, KS _ ((BS W h).trans (below_le' h2 (BS W h).size))⟩)
  have C1 := Lib.hid (fun W (h : S W) => (CC1 W (BS W h)).mono (R' := fun e W' => e = .returned (.string (bs x1.cd)) ∧ S W') fun e W' ⟨h1, h2⟩ => ⟨h1, KS _ ((BS W h).trans (below_le' h2 (BS W h).size))⟩)
  have K0 : S wa.drew := KS _ ((Below.refl _ _).drew)
  have KA : S wa := KS _ (Below.refl _ _)
  have BSS := Lib.hid BS
  have HB := Lib.hid hb
  have HWA := Lib.hid hwa
  subst hA
  clear KS BS hb hN1 hwa hsh hnd hN ih HT BC0 IC0 NC0 CC0 BC1 IC1 NC1 CC1 hx0 hx1 u2 hnda hsha hex hlt h4 hm
  subst hS
  go_enter Tryz.func33, Tryz.ntmps33
  go_wp2_with fail
  rw [← HWA.out]
  go_region_held3 (fun W => W.cell? ⟨b, o, none⟩ = some k0a0 ∧ W.cell? ⟨b, o + 1, none⟩ = some k0a1 ∧ W.cell? ⟨b, o + 2, none⟩ = some k0a2 ∧ W.cell? ⟨b, o + 3, none⟩ = some k0a3 ∧ W.cell? ⟨b, o + 4, none⟩ = some k0a4 ∧ W.cell? ⟨b, o + 5, none⟩ = some k0a5 ∧ W.cell? ⟨b, o + 6, none⟩ = some k0a6 ∧ W.cell? ⟨b, o + 7, none⟩ = some k0a7 ∧ W.cell? ⟨b, o + 8, none⟩ = some k1a0 ∧ W.cell? ⟨b, o + 8 + 1, none⟩ = some k1a1 ∧ W.cell? ⟨b, o + 8 + 2, none⟩ = some k1a2 ∧ W.cell? ⟨b, o + 8 + 3, none⟩ = some k1a3 ∧ W.cell? ⟨b, o + 8 + 4, none⟩ = some k1a4 ∧ W.cell? ⟨b, o + 8 + 5, none⟩ = some k1a5 ∧ W.cell? ⟨b, o + 8 + 6, none⟩ = some k1a6 ∧ W.cell? ⟨b, o + 8 + 7, none⟩ = some k1a7 ∧ Below wa.heap.size wa W)
    (first | (with_reducible assumption) | (with_reducible exact K0) | (with_reducible exact KA))
    (first
      | (go_at_call 49; with_reducible refine (C0.out _ ?_).mono ?_; (with_reducible assumption); rintro e w10 ⟨rfl, hs10⟩)
      | (go_at_call 36; with_reducible refine (C1.out _ ?_).mono ?_; (with_reducible assumption); rintro e w11 ⟨rfl, hs11⟩))
  all_goals
    go_wp2_with fail
    go_ret
    exact ⟨rfl, HB.out.trans (below_le' (BSS.out _ (by with_reducible assumption)) HB.out.size)⟩

set_option maxRecDepth 100000 in
set_option maxHeartbeats 4000000 in
theorem bare_29_3 {N : Nat} (ih : ∀ N', N' < N → BareC N') (ln : Int) (s : ByteArray) (k n : Int) (t : ByteArray) (v : VL) (va : Option Addr) (vc : Nat) (sub : NL) (sa : Option Addr) (sc : Nat) (ea : Nat → Addr) (w : World) (hN : sub.tot < N) (hsh : ShAt w ea) (hnd : NdIn w 29 ln s k n t v va vc sub sa sc) (hm : sub.len = 3) :
    Calls Tryz.prog 33 #[.agg #[.int .i64 29, .int .i64 ln, .string s, .int .i64 k, .int .i64 n, .string t, .slice va v.len vc, .slice sa sub.len sc]] w (SayT w (nodeT 29 s k n t v (ntx sub)).b) := by
  rw [hm]
  obtain ⟨wa, hwa⟩ : ∃ wa, wa = w.alloc (.cells #[.int .i64 29, .int .i64 ln, .string s, .int .i64 k, .int .i64 n, .string t, .slice va v.len vc, .slice sa 3 sc] 33) := ⟨_, rfl⟩
  have hb : Below w.heap.size w wa := by rw [hwa]; exact (Below.refl _ _).alloc (Nat.le_refl _) _
  have hN1 : NdB wa w.heap.size (.int .i64 29) (.int .i64 ln) (.string s) (.int .i64 k) (.int .i64 n) (.string t) (.slice va v.len vc) (.slice sa 3 sc) := by rw [hwa]; exact NdB.new _ _ _ _ _ _ _ _ _
  have v0 := hN1.c0; have v2 := hN1.c2; have v7 := hN1.c7
  have u2 := v2
  have hwz : w.heap.size < wa.heap.size := by rw [hwa]; simp
  rw [hwa] at v0 v2 v7
  have hex := hnd.ex.2.2.2.2.2.1
  have hnda := hnd.below hb
  have hsha := hsh.below hb
  have hlt := NL.len_tot sub
  have h4 := hnd.tot
  obtain ⟨b, o, hA⟩ := sa_of hnd (by omega)
  obtain ⟨k0a0, k0a1, k0a2, k0a3, k0a4, k0a5, k0a6, k0a7, hbl0, K0⟩ := kid_of ih hN hsha hnda 0 (by omega) hA
  obtain ⟨k1a0, k1a1, k1a2, k1a3, k1a4, k1a5, k1a6, k1a7, hbl1, K1⟩ := kid_of ih hN hsha hnda 1 (by omega) hA
  obtain ⟨k2a0, k2a1, k2a2, k2a3, k2a4, k2a5, k2a6, k2a7, hbl2, K2⟩ := kid_of ih hN hsha hnda 2 (by omega) hA
  obtain ⟨x0, hx0⟩ : ∃ x, x = (ntx sub).getD 0 default := ⟨_, rfl⟩
  rw [← hx0] at K0
  rw [show o + 0 * 8 = o from by omega] at K0
  obtain ⟨x1, hx1⟩ : ∃ x, x = (ntx sub).getD 1 default := ⟨_, rfl⟩
  rw [← hx1] at K1
  rw [show o + 1 * 8 = o + 8 from by omega] at K1
  obtain ⟨x2, hx2⟩ : ∃ x, x = (ntx sub).getD 2 default := ⟨_, rfl⟩
  rw [← hx2] at K2
  rw [show o + 2 * 8 = o + 16 from by omega] at K2
  have HT := Lib.hid (show bs (nodeT 29 s k n t v (ntx sub)).b = ⟨#[96]⟩ ++ bs (inT x0) ++ ⟨#[32, 33, 32]⟩ ++ bs x1.cd ++ (⟨#[32, 61, 62, 32]⟩ ++ bs (inT x2)) ++ ⟨#[39]⟩ by
    have e : (nodeT 29 s k n t v (ntx sub)).b = [96] ++ inT x0 ++ [32, 33, 32] ++ x1.cd ++ ([32, 61, 62, 32] ++ inT x2) ++ [39] := by
      have h : (nodeT 29 s k n t v (ntx sub)).b = [96] ++ inT ((ntx sub).getD 0 default) ++ [32, 33, 32] ++ ((ntx sub).getD 1 default).cd ++ (if 2 < (ntx sub).length then [32, 61, 62, 32] ++ inT ((ntx sub).getD 2 default) else []) ++ [39] := rfl
      rw [h, if_pos (by rw [ntx_len]; omega), ← hx0, ← hx1, ← hx2]
    rw [e]; apply ByteArray.ext; simp [bs])
  rw [show SayT w (nodeT 29 s k n t v (ntx sub)).b = fun e w' => e = .returned (.string (bs (nodeT 29 s k n t v (ntx sub)).b)) ∧ Below w.heap.size w w' from rfl, HT.out]
  obtain ⟨c00, c01, c02, c03, c04, c05, c06, c07, ⟨z0a, z0b, z0c, z0d⟩, BC0, IC0, NC0, CC0⟩ := K0
  obtain ⟨c10, c11, c12, c13, c14, c15, c16, c17, ⟨z1a, z1b, z1c, z1d⟩, BC1, IC1, NC1, CC1⟩ := K1
  obtain ⟨c20, c21, c22, c23, c24, c25, c26, c27, ⟨z2a, z2b, z2c, z2d⟩, BC2, IC2, NC2, CC2⟩ := K2
  rw [← bs_size] at z0d z1c z2d
  have s1 : ¬ (9223372036854775807 < 1 + (bs (inT x0)).size) := by omega
  have s2 : ¬ (9223372036854775807 < 1 + (bs (inT x0)).size + 3) := by omega
  have s3 : ¬ (9223372036854775807 < 1 + (bs (inT x0)).size + 3 + (bs x1.cd).size) := by omega
  obtain ⟨S, hS⟩ : ∃ S : World → Prop, S = fun W => W.cell? ⟨b, o, none⟩ = some k0a0 ∧ W.cell? ⟨b, o + 1, none⟩ = some k0a1 ∧ W.cell? ⟨b, o + 2, none⟩ = some k0a2 ∧ W.cell? ⟨b, o + 3, none⟩ = some k0a3 ∧ W.cell? ⟨b, o + 4, none⟩ = some k0a4 ∧ W.cell? ⟨b, o + 5, none⟩ = some k0a5 ∧ W.cell? ⟨b, o + 6, none⟩ = some k0a6 ∧ W.cell? ⟨b, o + 7, none⟩ = some k0a7 ∧ W.cell? ⟨b, o + 8, none⟩ = some k1a0 ∧ W.cell? ⟨b, o + 8 + 1, none⟩ = some k1a1 ∧ W.cell? ⟨b, o + 8 + 2, none⟩ = some k1a2 ∧ W.cell? ⟨b, o + 8 + 3, none⟩ = some k1a3 ∧ W.cell? ⟨b, o + 8 + 4, none⟩ = some k1a4 ∧ W.cell? ⟨b, o + 8 + 5, none⟩ = some k1a5 ∧ W.cell? ⟨b, o + 8 + 6, none⟩ = some k1a6 ∧ W.cell? ⟨b, o + 8 + 7, none⟩ = some k1a7 ∧ Below wa.heap.size wa W := ⟨_, rfl⟩
  have KS : ∀ W, Below wa.heap.size wa W → S W := fun W h => by rw [hS]; exact ⟨cellB h c00 hbl0, cellB h c01 hbl0, cellB h c02 hbl0, cellB h c03 hbl0, cellB h c04 hbl0, cellB h c05 hbl0, cellB h c06 hbl0, cellB h c07 hbl0, cellB h c10 hbl1, cellB h c11 hbl1, cellB h c12 hbl1, cellB h c13 hbl1, cellB h c14 hbl1, cellB h c15 hbl1, cellB h c16 hbl1, cellB h c17 hbl1, h⟩
  have BS : ∀ W, S W → Below wa.heap.size wa W := fun W h => by rw [hS] at h; exact h.2.2.2.2.2.2.2.2.2.2.2.2.2.2.2.2
  have C0 := Lib.hid (fun W (h : S W) => (IC0 W (BS W h)).mono (R' := fun e W' => e = .returned (.string (bs (inT x0))) ∧ S W') fun e W' ⟨h1, h2⟩ => ⟨h1, KS _ ((BS W h).trans (below_le' h2 (BS W h).size))⟩)
  have C1 := Lib.hid (fun W (h : S W) => (CC1 W (BS W h)).mono (R' := fun e W' => e = .returned (.string (bs x1.cd)) ∧ S W') fun e W' ⟨h1, h2⟩ => ⟨h1, KS _ ((BS W h).trans (below_le' h2 (BS W h).size))⟩)
  have K0 : S wa.drew := KS _ ((Below.refl _ _).drew)
  have KA : S wa := KS _ (Below.refl _ _)
  have BSS := Lib.hid BS
  have HB := Lib.hid hb
  have HWA := Lib.hid hwa
  have HK2 := Lib.hid (fun W (hW : Below wa.heap.size wa W) => (⟨cellB hW c20 hbl2, cellB hW c21 hbl2, cellB hW c22 hbl2, cellB hW c23 hbl2, cellB hW c24 hbl2, cellB hW c25 hbl2, cellB hW c26 hbl2, cellB hW c27 hbl2⟩ : W.cell? ⟨b, o + 16, none⟩ = some k2a0 ∧ W.cell? ⟨b, o + 16 + 1, none⟩ = some k2a1 ∧ W.cell? ⟨b, o + 16 + 2, none⟩ = some k2a2 ∧ W.cell? ⟨b, o + 16 + 3, none⟩ = some k2a3 ∧ W.cell? ⟨b, o + 16 + 4, none⟩ = some k2a4 ∧ W.cell? ⟨b, o + 16 + 5, none⟩ = some k2a5 ∧ W.cell? ⟨b, o + 16 + 6, none⟩ = some k2a6 ∧ W.cell? ⟨b, o + 16 + 7, none⟩ = some k2a7))
  have HC2 := Lib.hid IC2
  subst hA
  clear KS BS hb hN1 hwa hsh hnd hN ih HT BC0 IC0 NC0 CC0 BC1 IC1 NC1 CC1 BC2 IC2 NC2 CC2 hx0 hx1 hx2 u2 hnda hsha hex hlt h4 hm
  subst hS
  go_enter Tryz.func33, Tryz.ntmps33
  go_wp2_with fail
  rw [← HWA.out]
  go_region_held3 (fun W => W.cell? ⟨b, o, none⟩ = some k0a0 ∧ W.cell? ⟨b, o + 1, none⟩ = some k0a1 ∧ W.cell? ⟨b, o + 2, none⟩ = some k0a2 ∧ W.cell? ⟨b, o + 3, none⟩ = some k0a3 ∧ W.cell? ⟨b, o + 4, none⟩ = some k0a4 ∧ W.cell? ⟨b, o + 5, none⟩ = some k0a5 ∧ W.cell? ⟨b, o + 6, none⟩ = some k0a6 ∧ W.cell? ⟨b, o + 7, none⟩ = some k0a7 ∧ W.cell? ⟨b, o + 8, none⟩ = some k1a0 ∧ W.cell? ⟨b, o + 8 + 1, none⟩ = some k1a1 ∧ W.cell? ⟨b, o + 8 + 2, none⟩ = some k1a2 ∧ W.cell? ⟨b, o + 8 + 3, none⟩ = some k1a3 ∧ W.cell? ⟨b, o + 8 + 4, none⟩ = some k1a4 ∧ W.cell? ⟨b, o + 8 + 5, none⟩ = some k1a5 ∧ W.cell? ⟨b, o + 8 + 6, none⟩ = some k1a6 ∧ W.cell? ⟨b, o + 8 + 7, none⟩ = some k1a7 ∧ Below wa.heap.size wa W)
    (first | (with_reducible assumption) | (with_reducible exact K0) | (with_reducible exact KA))
    (first
      | (go_at_call 49; with_reducible refine (C0.out _ ?_).mono ?_; (with_reducible assumption); rintro e w10 ⟨rfl, hs10⟩)
      | (go_at_call 36; with_reducible refine (C1.out _ ?_).mono ?_; (with_reducible assumption); rintro e w11 ⟨rfl, hs11⟩))
  all_goals
    have hB1 := BSS.out _ (by with_reducible assumption)
    have HB1 := Lib.hid hB1
    obtain ⟨y0, y1, y2, y3, y4, y5, y6, y7⟩ := HK2.out _ hB1
    clear hB1
    go_wp2_with fail
    refine (HC2.out _ HB1.out).mono ?_
    rintro e w20 ⟨rfl, hb20⟩
    have HB20 := Lib.hid (HB.out.trans (below_le' (HB1.out.trans (below_le' hb20 HB1.out.size)) HB.out.size))
    clear hb20
    go_wp2_with fail
    go_ret
    exact ⟨rfl, HB20.out⟩
end Go.Proofs.YtgmnbdfbbcpciaaGreatDoor
namespace Go.Proofs.YtgmnbdfbbcpciaaGreatDoor
open Go.RowKit Go.Lib
set_option linter.unusedVariables false

theorem bare_step (N : Nat) (ih : ∀ N', N' < N → BareC N') : BareC N := by
  intro op ln s k n t v va vc sub sa sc ea w hN hsh hnd
  rcases op_kind hnd.ex.1 hnd.ex.2.1 with ⟨rfl, hm⟩ | ⟨rfl, hm⟩ | ⟨rfl, hm⟩ | ⟨rfl, hm⟩ | ⟨hb, hm⟩ | ⟨rfl, hm⟩ | ⟨rfl, hm⟩ | ⟨rfl, hm⟩ | ⟨rfl, hm⟩ | ⟨rfl, hm⟩ | rfl | rfl | ⟨rfl, hm⟩ | ⟨rfl, hm⟩ | ⟨rfl, hm⟩ | ⟨rfl, hm⟩
  · exact bare_1 ln s k n t v va vc sub sa sc ea w hsh hnd
  · exact bare_2 ln s k n t v va vc sub sa sc w
  · exact bare_3 ih ln s k n t v va vc sub sa sc ea w hN hsh hnd hm
  · exact bare_4 ih ln s k n t v va vc sub sa sc ea w hN hsh hnd hm
  · exact bare_bin ih op ln s k n t v va vc sub sa sc ea w hN hsh hnd hm hb
  · exact bare_19 ih ln s k n t v va vc sub sa sc ea w hN hsh hnd hm
  · exact bare_20 ih ln s k n t v va vc sub sa sc ea w hN hsh hnd hm
  · exact bare_21 ih ln s k n t v va vc sub sa sc ea w hN hsh hnd hm
  · exact bare_22 ih ln s k n t v va vc sub sa sc ea w hN hsh hnd hm
  · exact bare_23 ih ln s k n t v va vc sub sa sc ea w hN hsh hnd hm
  · exact bare_24 ih ln s k n t v va vc sub sa sc ea w hN hsh hnd
  · exact bare_25 (ih sub.tot hN) ln s k n t v va vc sub sa sc ea w (Nat.le_refl _) hsh hnd
  · exact bare_26 ih ln s k n t v va vc sub sa sc ea w hN hsh hnd hm
  · exact bare_27 ih ln s k n t v va vc sub sa sc ea w hN hsh hnd hm
  · exact bare_28 ih ln s k n t v va vc sub sa sc ea w hN hsh hnd hm
  · rcases hm with hm | hm
    · exact bare_29_2 ih ln s k n t v va vc sub sa sc ea w hN hsh hnd hm
    · exact bare_29_3 ih ln s k n t v va vc sub sa sc ea w hN hsh hnd hm
theorem bare_c (N : Nat) : BareC N := by
  induction N using Nat.strongRecOn with
  | _ N ih => exact bare_step N ih

/-- Without errors what is right as an expression is what its text asks for. -/
theorem right_ex {l : NL} (hfit : l.fit) (h64 : l.i64) (hr : rightN l 0 = true) : ExN l ∧ l.tot ≤ 4096 := by
  simp only [rightN, Bool.and_eq_true, decide_eq_true_eq, Option.isNone_iff_eq_none] at hr
  exact ⟨ex_of_walk l _ 0 hfit h64 hr.2 (fun _ => Nat.zero_le _), hr.1.1⟩

end Go.Proofs.YtgmnbdfbbcpciaaGreatDoor
namespace Go.Proofs.YtgmnbdfbbcpciaaGreatDoor
open Go.RowKit Go.Lib
set_option linter.unusedVariables false

/-- A string appended to a row of bytes of the call's own, as a step of a region that draws. -/
theorem step_append_str {P : Program} (w : World) {ops : Array Oper} {o : Oper} {a : Act} {K : Act → World → Prop} {Q : Exit → Act → World → Prop} {E : Prop} (hgd : o.guard = none) (sl x : Operand) (t u : TypeId)
    (ho : o.op = .call { callee := .builtin .append, args := #[sl, x], argTypes := #[t, u] })
    (base : Nat) (e : TypeId) (i : TypeInfo) (ht : P.underlying t = some (.slice e)) (hu : P.underlying u = some .string) (hi : P.info? e = some i) (hz : i.zero = some (.int .u8 0))
    (hsize : i.size = 1) (hby : i.bytes = 1)
    (v : Value) (n : Nat) (xs : List Value) (hs : a.eval sl = v) (hown : w.ownsRow base e 1 v n xs) (s : ByteArray) (hx : a.eval x = .string s)
    (h63 : n + s.size ≤ maxLen) (hbytes : n + s.size ≤ 140737488355328) (hbase : base ≤ w.heap.size)
    (h : ∀ A cap w', w'.ownsRow base e 1 (.slice A (n + s.size) cap) (n + s.size) (xs ++ strCells s) → w.grownBy w' v.ownBlock → K (a.put o.dst (.slice A (n + s.size) cap)) w') :
    if Region.wanted o (yielded ops a.tmps) = true then Oper.wp P o a w K Q else E := by
  have hw : Region.wanted o (yielded ops a.tmps) = true := by simp [Region.wanted, hgd]
  rw [if_pos hw]
  obtain ⟨v', w', hr, h2, h3, h4⟩ := run_append_own_string (P := P) w base t u o.type e i ht hu hi hz hsize hby v n xs hown s h63 hbytes hbase
  obtain ⟨A, cap, rfl⟩ := own_form h2
  unfold Oper.wp execOp
  simp only [ho, resolve, invoke, builtin, Sem.run_bind, Sem.run_pure, Result.andThen_ok, List.map_toArray, List.map_cons, List.map_nil, hs, hx, hr]
  exact h A cap w' h2 h3

/-- A writer, and what it has written. -/
def LnSt (w : World) (W : Nat) (acc : List UInt8) : Prop := ∃ v, w.heap[W]? = some (.cells #[v] 43 (0, 0)) ∧ w.ownsRow (W + 1) 5 1 v (bs acc).size (strCells (bs acc))
theorem LnSt.lt {w : World} {W : Nat} {acc : List UInt8} (h : LnSt w W acc) : W < w.heap.size := by
  obtain ⟨v, hW, _⟩ := h
  rcases Nat.lt_or_ge W w.heap.size with hlt | hge
  · exact hlt
  · rw [Array.getElem?_eq_none hge] at hW; cases hW
theorem LnSt.below {w w' : World} {W : Nat} {acc : List UInt8} (h : LnSt w W acc) (hb : Below w.heap.size w w') : LnSt w' W acc := by
  have hlt := h.lt
  obtain ⟨v, hW, ho⟩ := h
  exact ⟨v, (hb.block W hlt).trans hW, own_below ho hb⟩
theorem rep_len (d : Nat) : repeatL ([32, 32] : List UInt8) d = List.replicate (2 * d) 32 := by
  induction d with
  | zero => rfl
  | succ d ih => rw [repeatL, ih, show 2 * (d + 1) = 2 * d + 1 + 1 from by omega, List.replicate_succ, List.replicate_succ]; rfl
theorem byte_info : (Tryz.prog.info? 5).map (fun i => (i.zero, i.size, i.bytes)) = some (some (.int .u8 0), 1, 1) := by kernel_rfl
theorem strCells_app (a b : List UInt8) : strCells (bs (a ++ b)) = strCells (bs a) ++ strCells (bs b) := by simp [strCells, bs]

theorem own_far {w w' : World} {base e size n : Nat} {v : Value} {xs : List Value} (h : w.ownsRow base e size v n xs) (hk : ∀ g, base ≤ g → w'.heap[g]? = w.heap[g]?) : w'.ownsRow base e size v n xs := by
  refine ⟨h.1, ?_⟩
  rcases h.2 with h0 | ⟨g, cap, cur, hv, hb1, hh, r⟩
  · exact .inl h0
  · exact .inr ⟨g, cap, cur, hv, hb1, (hk g hb1).trans hh, r⟩
/-- What a line leaves. -/
theorem line_end {w w2 w' : World} {W : Nat} {acc l : List UInt8} {VA A : Option Addr} {VC cap : Nat} {t : ByteArray} (hlt : W < w.heap.size) (hW2 : w2.heap[W]? = some (.cells #[.slice VA (bs acc).size VC] 43 (0, 0))) (hb2 : Below w.heap.size w w2)
    (ho : w2.ownsRow (W + 1) 5 1 (.slice VA (bs acc).size VC) (bs acc).size (strCells (bs acc))) (hne : some W ≠ (Value.slice VA (bs acc).size VC).ownBlock) (ht : t = bs l)
    (hown' : w'.ownsRow (W + 1) 5 1 (.slice A ((bs acc).size + t.size) cap) ((bs acc).size + t.size) (strCells (bs acc) ++ strCells t)) (hg : w2.grownBy w' (Value.slice VA (bs acc).size VC).ownBlock) :
    Below W w (w'.setCell ⟨W, 0, none⟩ (.slice A ((bs acc).size + t.size) cap)) ∧ LnSt (w'.setCell ⟨W, 0, none⟩ (.slice A ((bs acc).size + t.size) cap)) W (acc ++ l) := by
  have hz := hb2.size
  have hlt2 : W < w2.heap.size := by omega
  have hbW : Below W w w2 := below_le' hb2 (Nat.le_of_lt hlt)
  have h1 : Below W w w' := grown_below hbW (Nat.le_of_lt hlt2) hg (fun k hk => by have := (ho.lt k hk).1; omega)
  refine ⟨h1.setCell (Nat.le_refl W) _, .slice A ((bs acc).size + t.size) cap, ?_, ?_⟩
  · have hW' := (hg.block W hlt2 hne).trans hW2
    have := heap_setCell_same w' W 0 _ _ (.slice A ((bs acc).size + t.size) cap) hW'
    simpa using this
  · have h2 := own_far (w' := w'.setCell ⟨W, 0, none⟩ (.slice A ((bs acc).size + t.size) cap)) hown' (fun g hgb => Below.heap_setCell _ _ _ _ (by show g ≠ W; omega))
    subst ht
    rw [strCells_app, show (bs (acc ++ l)).size = (bs acc).size + (bs l).size by rw [bs_size, bs_size, bs_size, List.length_append]]
    exact h2

set_option maxRecDepth 100000 in
set_option maxHeartbeats 4000000 in
theorem line_c (W : Nat) (acc : List UInt8) (d : Nat) (s : ByteArray) (w : World) (h : LnSt w W acc) (hd : d ≤ 5000) (hs : s.size ≤ 2000000000) (ha : acc.length ≤ 100000000000000) :
    Calls Tryz.prog 32 #[.pointer (some ⟨W, 0, none⟩), .int .i64 (d : Int), .string s] w fun e w' => e = .returned (.tuple #[]) ∧ Below W w w' ∧ LnSt w' W (acc ++ lineT d s.data.toList) := by
  have hlt := h.lt
  obtain ⟨v, hW, hown⟩ := h
  obtain ⟨i0, hi0, hz0, hz1, hz2⟩ := info_parts byte_info
  obtain ⟨VA, VC, hv⟩ := own_form hown
  subst hv
  have c0 : w.cell? ⟨W, 0, none⟩ = some (.slice VA (bs acc).size VC) := cell_of_row w W 0 _ _ _ hW
  have f0 : w.frozen? ⟨W, 0, none⟩ = false := by simp [World.frozen?, hW]
  have RC := fun W' => Tryz.strings_Repeat ⟨#[32, 32]⟩ d W' (by omega) (by show 2 * d ≤ _; omega)
  rw [show (⟨#[32, 32]⟩ : ByteArray).data.toList = [32, 32] from rfl, rep_len] at RC
  obtain ⟨r, hr⟩ : ∃ r : ByteArray, r = ⟨(List.replicate (2 * d) (32 : UInt8)).toArray⟩ := ⟨_, rfl⟩
  have hrs : r.size ≤ 10000 := by rw [hr]; show (List.replicate (2 * d) (32 : UInt8)).toArray.size ≤ _; rw [List.size_toArray, List.length_replicate]; omega
  have hln : r ++ s ++ ⟨#[10]⟩ = bs (lineT d s.data.toList) := by rw [hr]; unfold lineT; apply ByteArray.ext; simp [bs]
  rw [← hr] at RC
  clear hr
  have hsz : (r ++ s ++ ⟨#[10]⟩ : ByteArray).size = r.size + s.size + 1 := by rw [ByteArray.size_append, ByteArray.size_append]; rfl
  have s1 : ¬ (9223372036854775807 < r.size + s.size) := by omega
  have s2 : ¬ (9223372036854775807 < r.size + s.size + 1) := by omega
  have hac : (bs acc).size ≤ 100000000000000 := by rw [bs_size]; exact ha
  have HO := Lib.hid (show w.drew.ownsRow (W + 1) 5 1 (.slice VA (bs acc).size VC) (bs acc).size (strCells (bs acc)) from hown)
  have HW := Lib.hid hW
  have d0 : w.drew.cell? ⟨W, 0, none⟩ = some (.slice VA (bs acc).size VC) := c0
  have g0 : w.drew.frozen? ⟨W, 0, none⟩ = false := f0
  have HRC := Lib.hid RC
  have HLN := Lib.hid hln
  have HSZ := Lib.hid hsz
  have n1 : (bs acc).size + (r ++ s ++ ⟨#[10]⟩ : ByteArray).size ≤ maxLen := by unfold maxLen; omega
  have n2 : (bs acc).size + (r ++ s ++ ⟨#[10]⟩ : ByteArray).size ≤ 140737488355328 := by omega
  have N1 := Lib.hid n1
  have N2 := Lib.hid n2
  clear hown hW RC hln hsz n1 n2
  go_enter Tryz.func32, Tryz.ntmps32
  go_wp2_with fail
  go_region_law (first
    | (refine step_append_str _ (by rfl) (.tmp 10) (.tmp 15) 41 9 (by rfl) (W + 1) 5 i0 Tryz.underlying41 Tryz.underlying9 hi0 hz0 hz1 hz2 (.slice VA (bs acc).size VC) (bs acc).size (strCells (bs acc)) (by rfl) (HO2.out) (r ++ s ++ ⟨#[10]⟩) (by rfl) N1.out N2.out hz2' ?_
       intro A cap w' hown' hgrow'
       have hcx := (World.cell?_of_block (w := w2) (hgrow'.block W hlt2 hneW.out)).trans y0
       have hfx := (World.frozen?_of_block (w := w2) (hgrow'.block W hlt2 hneW.out)).trans z0)
    | (go_simp; go_at_call 47; refine (HRC.out _).mono ?_; rintro e w2 ⟨rfl, hb2⟩
       have HO2 := Lib.hid (own_below HO.out hb2)
       have hb2z := hb2.size
       have hlt2 : W < w2.heap.size := Nat.lt_of_lt_of_le hlt hb2z
       have hz2' : W + 1 ≤ w2.heap.size := hlt2
       have hneW := Lib.hid (show some W ≠ (Value.slice VA (bs acc).size VC).ownBlock by
         intro hc
         have := (HO2.out.lt W hc.symm).1
         omega)
       have y0 : w2.cell? ⟨W, 0, none⟩ = some (.slice VA (bs acc).size VC) := (World.cell?_of_block (w := w.drew) (hb2.block W hlt)).trans d0
       have z0 : w2.frozen? ⟨W, 0, none⟩ = false := (World.frozen?_of_block (w := w.drew) (hb2.block W hlt)).trans g0
       have HW2 := Lib.hid ((hb2.block W hlt).trans HW.out)))
  all_goals
    go_wp2_with fail
    go_end0
    have LE := line_end (l := lineT d s.data.toList) hlt HW2.out ((Below.refl _ _).drew.trans hb2) HO2.out hneW.out HLN.out hown' hgrow'
    rw [HSZ.out] at LE
    exact ⟨rfl, LE.1, LE.2⟩
end Go.Proofs.YtgmnbdfbbcpciaaGreatDoor
namespace Go.Proofs.YtgmnbdfbbcpciaaGreatDoor
open Go.RowKit Go.Lib
set_option linter.unusedVariables false

/-- The block of a writer's row. -/
def rowAt (w : World) (W b : Nat) : Prop := ∃ v, w.cell? ⟨W, 0, none⟩ = some v ∧ v.ownBlock = some b
/-- Nothing else is changed: just the writer, and its row. -/
structure Keep (w w' : World) (W : Nat) : Prop where
  os : w'.os = w.os
  tape : w'.tape = w.tape
  output : w'.output = w.output
  size : w.heap.size ≤ w'.heap.size
  block : ∀ b, b < w.heap.size → b ≠ W → ¬ rowAt w W b → w'.heap[b]? = w.heap[b]?
  row : ∀ b, rowAt w' W b → rowAt w W b ∨ w.heap.size ≤ b
theorem Keep.trans {a b c : World} {W : Nat} (h : Keep a b W) (k : Keep b c W) : Keep a c W :=
  ⟨k.os.trans h.os, k.tape.trans h.tape, k.output.trans h.output, Nat.le_trans h.size k.size,
   fun x hx hn hr => (k.block x (Nat.lt_of_lt_of_le hx h.size) hn (fun hb => (h.row x hb).elim hr (fun hge => by omega))).trans (h.block x hx hn hr),
   fun x hx => (k.row x hx).elim (fun h1 => h.row x h1) (fun h1 => .inr (Nat.le_trans h.size h1))⟩
theorem Keep.of_below {w w' : World} {W : Nat} (hb : Below w.heap.size w w') (hW : W < w.heap.size) : Keep w w' W :=
  ⟨hb.os, hb.tape, hb.output, hb.size, fun b hlt _ _ => hb.block b hlt, fun b ⟨v, hc, hv⟩ => .inl ⟨v, by rw [← hb.cell (p := ⟨W, 0, none⟩) hW]; exact hc, hv⟩⟩

/-- Where a row lies behind an append of a string: where it lay, or in a new block. -/
theorem run_append_str_at {P : Program} (w : World) (base : Nat) (t u ty e : TypeId) (i : TypeInfo) (ht : P.underlying t = some (.slice e)) (hu : P.underlying u = some .string) (hi : P.info? e = some i) (hz : i.zero = some (.int .u8 0))
    (hsize : i.size = 1) (hby : i.bytes = 1) (v : Value) (n : Nat) (xs : List Value) (hown : w.ownsRow base e 1 v n xs) (s : ByteArray) (h63 : n + s.size ≤ maxLen) (hbytes : n + s.size ≤ 140737488355328) (hbase : base ≤ w.heap.size) :
    ∃ v' w', (Builtin.append_ #[t, u] ty #[v, .string s]).run P w = .ok v' w' ∧ w'.ownsRow base e 1 v' (n + s.size) (xs ++ strCells s) ∧ w.grownBy w' v.ownBlock ∧ ∀ b, v'.ownBlock = some b → v.ownBlock = some b ∨ w.heap.size ≤ b := by
  obtain ⟨v', w', hr, h2, h3, _⟩ := run_append_own_string (P := P) w base t u ty e i ht hu hi hz hsize hby v n xs hown s h63 hbytes hbase
  refine ⟨v', w', hr, h2, h3, fun b hb => ?_⟩
  have h63' : n + s.size ≤ 9223372036854775807 := by simp only [maxLen] at h63; omega
  have hxl : xs.length = n := by simpa using hown.1
  rcases hown.2 with ⟨rfl, rfl⟩ | ⟨g, cap, cur, rfl, hbg, hg, hnc, hcm, hcs, htake⟩
  · have hx : xs = [] := List.eq_nil_of_length_eq_zero hxl
    subst hx
    obtain ⟨v2, w2, hr2, k2, _, _⟩ := run_append_own_string (P := P) w w.heap.size t u ty e i ht hu hi hz hsize hby (.slice none 0 0) 0 [] (World.ownsRow_nil _ _ _ _) s h63 hbytes (Nat.le_refl _)
    rw [hr] at hr2
    injection hr2 with e1 e2
    subst e1
    exact .inr (k2.lt b hb).1
  · by_cases hroom : n + s.size ≤ cap
    · have hcs' : cur.size = cap := by simpa using hcs
      have hr2 := run_append_room_string (P := P) w t u ty e i ht hu hi hsize g n cap cur hg s hroom (by omega)
      rw [hr] at hr2
      injection hr2 with e1 e2
      subst e1
      exact .inl hb
    · have holds : ∀ j u, xs[j]? = some u → w.cell? ((⟨g, 0, none⟩ : Addr).add j) = some u := hown.cells (g := g) rfl
      have hr2 := run_append_grow_string (P := P) w t u ty e i (.int .u8 0) ht hu hi hz ⟨g, 0, none⟩ n cap xs (by rw [hsize]; simpa using hxl) holds s (by omega) (by omega) (by rw [hby]; exact growslice_fits (by omega) (by omega))
      rw [hr] at hr2
      injection hr2 with e1 e2
      subst e1
      injection hb with hb
      exact .inr (Nat.le_of_eq hb)
end Go.Proofs.YtgmnbdfbbcpciaaGreatDoor
namespace Go.Proofs.YtgmnbdfbbcpciaaGreatDoor
open Go.RowKit Go.Lib
set_option linter.unusedVariables false

/-- A string appended to a row of bytes of the call's own, as a step of a region that draws. -/
theorem step_append_strK {P : Program} (w : World) {ops : Array Oper} {o : Oper} {a : Act} {K : Act → World → Prop} {Q : Exit → Act → World → Prop} {E : Prop} (hgd : o.guard = none) (sl x : Operand) (t u : TypeId)
    (ho : o.op = .call { callee := .builtin .append, args := #[sl, x], argTypes := #[t, u] })
    (base : Nat) (e : TypeId) (i : TypeInfo) (ht : P.underlying t = some (.slice e)) (hu : P.underlying u = some .string) (hi : P.info? e = some i) (hz : i.zero = some (.int .u8 0))
    (hsize : i.size = 1) (hby : i.bytes = 1)
    (v : Value) (n : Nat) (xs : List Value) (hs : a.eval sl = v) (hown : w.ownsRow base e 1 v n xs) (s : ByteArray) (hx : a.eval x = .string s)
    (h63 : n + s.size ≤ maxLen) (hbytes : n + s.size ≤ 140737488355328) (hbase : base ≤ w.heap.size)
    (h : ∀ A cap w', w'.ownsRow base e 1 (.slice A (n + s.size) cap) (n + s.size) (xs ++ strCells s) → w.grownBy w' v.ownBlock → (∀ b, (Value.slice A (n + s.size) cap).ownBlock = some b → v.ownBlock = some b ∨ w.heap.size ≤ b) → K (a.put o.dst (.slice A (n + s.size) cap)) w') :
    if Region.wanted o (yielded ops a.tmps) = true then Oper.wp P o a w K Q else E := by
  have hw : Region.wanted o (yielded ops a.tmps) = true := by simp [Region.wanted, hgd]
  rw [if_pos hw]
  obtain ⟨v', w', hr, h2, h3, h4⟩ := run_append_str_at (P := P) w base t u o.type e i ht hu hi hz hsize hby v n xs hown s h63 hbytes hbase
  obtain ⟨A, cap, rfl⟩ := own_form h2
  unfold Oper.wp execOp
  simp only [ho, resolve, invoke, builtin, Sem.run_bind, Sem.run_pure, Result.andThen_ok, List.map_toArray, List.map_cons, List.map_nil, hs, hx, hr]
  exact h A cap w' h2 h3 h4

/-- What a line leaves. -/
theorem line_endK {w w2 w' : World} {W : Nat} {acc l : List UInt8} {VA A : Option Addr} {VC cap : Nat} {t : ByteArray} (hlt : W < w.heap.size) (hW2 : w2.heap[W]? = some (.cells #[.slice VA (bs acc).size VC] 43 (0, 0))) (hb2 : Below w.heap.size w w2)
    (ho : w2.ownsRow (W + 1) 5 1 (.slice VA (bs acc).size VC) (bs acc).size (strCells (bs acc))) (hne : some W ≠ (Value.slice VA (bs acc).size VC).ownBlock) (ht : t = bs l)
    (hown' : w'.ownsRow (W + 1) 5 1 (.slice A ((bs acc).size + t.size) cap) ((bs acc).size + t.size) (strCells (bs acc) ++ strCells t)) (hg : w2.grownBy w' (Value.slice VA (bs acc).size VC).ownBlock) (hat : ∀ b, (Value.slice A ((bs acc).size + t.size) cap).ownBlock = some b → (Value.slice VA (bs acc).size VC).ownBlock = some b ∨ w2.heap.size ≤ b) :
    Below W w (w'.setCell ⟨W, 0, none⟩ (.slice A ((bs acc).size + t.size) cap)) ∧ LnSt (w'.setCell ⟨W, 0, none⟩ (.slice A ((bs acc).size + t.size) cap)) W (acc ++ l) ∧ Keep w (w'.setCell ⟨W, 0, none⟩ (.slice A ((bs acc).size + t.size) cap)) W := by
  have hz := hb2.size
  have hlt2 : W < w2.heap.size := by omega
  have hbW : Below W w w2 := below_le' hb2 (Nat.le_of_lt hlt)
  have h1 : Below W w w' := grown_below hbW (Nat.le_of_lt hlt2) hg (fun k hk => by have := (ho.lt k hk).1; omega)
  have hW' := (hg.block W hlt2 hne).trans hW2
  have hcell : (w'.setCell ⟨W, 0, none⟩ (.slice A ((bs acc).size + t.size) cap)).cell? ⟨W, 0, none⟩ = some (.slice A ((bs acc).size + t.size) cap) := by
    have h := heap_setCell_same w' W 0 _ _ (.slice A ((bs acc).size + t.size) cap) hW'
    have h2 := cell_of_row _ W 0 _ _ _ h
    simpa using h2
  have hc0 : w.cell? ⟨W, 0, none⟩ = some (.slice VA (bs acc).size VC) := by
    have h := cell_of_row w2 W 0 _ _ _ hW2
    rw [← hb2.cell (p := ⟨W, 0, none⟩) hlt]; simpa using h
  have hz1 := hg.size
  refine ⟨h1.setCell (Nat.le_refl W) _, ⟨.slice A ((bs acc).size + t.size) cap, ?_, ?_⟩, ⟨h1.os, h1.tape, h1.output, by have := h1.size; simpa [World.setCell] using this, fun b hb hbW hbr => ?_, fun b ⟨v, hv, hvb⟩ => ?_⟩⟩
  · have := heap_setCell_same w' W 0 _ _ (.slice A ((bs acc).size + t.size) cap) hW'
    simpa using this
  · have h2 := own_far (w' := w'.setCell ⟨W, 0, none⟩ (.slice A ((bs acc).size + t.size) cap)) hown' (fun g hgb => Below.heap_setCell _ _ _ _ (by show g ≠ W; omega))
    subst ht
    rw [strCells_app, show (bs (acc ++ l)).size = (bs acc).size + (bs l).size by rw [bs_size, bs_size, bs_size, List.length_append]]
    exact h2
  · rw [Below.heap_setCell _ _ _ _ (by show b ≠ W; exact hbW), hg.block b (by omega) (fun e => hbr ⟨_, hc0, e.symm⟩)]
    exact hb2.block b hb
  · rw [hcell] at hv
    injection hv with hv
    subst hv
    rcases hat b hvb with h | h
    · exact .inl ⟨_, hc0, h⟩
    · exact .inr (Nat.le_trans hz h)

set_option maxRecDepth 100000 in
set_option maxHeartbeats 4000000 in
theorem line_k (W : Nat) (acc : List UInt8) (d : Nat) (s : ByteArray) (w : World) (h : LnSt w W acc) (hd : d ≤ 5000) (hs : s.size ≤ 2000000000) (ha : acc.length ≤ 100000000000000) :
    Calls Tryz.prog 32 #[.pointer (some ⟨W, 0, none⟩), .int .i64 (d : Int), .string s] w fun e w' => e = .returned (.tuple #[]) ∧ Keep w w' W ∧ LnSt w' W (acc ++ lineT d s.data.toList) := by
  have hlt := h.lt
  obtain ⟨v, hW, hown⟩ := h
  obtain ⟨i0, hi0, hz0, hz1, hz2⟩ := info_parts byte_info
  obtain ⟨VA, VC, hv⟩ := own_form hown
  subst hv
  have c0 : w.cell? ⟨W, 0, none⟩ = some (.slice VA (bs acc).size VC) := cell_of_row w W 0 _ _ _ hW
  have f0 : w.frozen? ⟨W, 0, none⟩ = false := by simp [World.frozen?, hW]
  have RC := fun W' => Tryz.strings_Repeat ⟨#[32, 32]⟩ d W' (by omega) (by show 2 * d ≤ _; omega)
  rw [show (⟨#[32, 32]⟩ : ByteArray).data.toList = [32, 32] from rfl, rep_len] at RC
  obtain ⟨r, hr⟩ : ∃ r : ByteArray, r = ⟨(List.replicate (2 * d) (32 : UInt8)).toArray⟩ := ⟨_, rfl⟩
  have hrs : r.size ≤ 10000 := by rw [hr]; show (List.replicate (2 * d) (32 : UInt8)).toArray.size ≤ _; rw [List.size_toArray, List.length_replicate]; omega
  have hln : r ++ s ++ ⟨#[10]⟩ = bs (lineT d s.data.toList) := by rw [hr]; unfold lineT; apply ByteArray.ext; simp [bs]
  rw [← hr] at RC
  clear hr
  have hsz : (r ++ s ++ ⟨#[10]⟩ : ByteArray).size = r.size + s.size + 1 := by rw [ByteArray.size_append, ByteArray.size_append]; rfl
  have s1 : ¬ (9223372036854775807 < r.size + s.size) := by omega
  have s2 : ¬ (9223372036854775807 < r.size + s.size + 1) := by omega
  have hac : (bs acc).size ≤ 100000000000000 := by rw [bs_size]; exact ha
  have HO := Lib.hid (show w.drew.ownsRow (W + 1) 5 1 (.slice VA (bs acc).size VC) (bs acc).size (strCells (bs acc)) from hown)
  have HW := Lib.hid hW
  have d0 : w.drew.cell? ⟨W, 0, none⟩ = some (.slice VA (bs acc).size VC) := c0
  have g0 : w.drew.frozen? ⟨W, 0, none⟩ = false := f0
  have HRC := Lib.hid RC
  have HLN := Lib.hid hln
  have HSZ := Lib.hid hsz
  have n1 : (bs acc).size + (r ++ s ++ ⟨#[10]⟩ : ByteArray).size ≤ maxLen := by unfold maxLen; omega
  have n2 : (bs acc).size + (r ++ s ++ ⟨#[10]⟩ : ByteArray).size ≤ 140737488355328 := by omega
  have N1 := Lib.hid n1
  have N2 := Lib.hid n2
  clear hown hW RC hln hsz n1 n2
  go_enter Tryz.func32, Tryz.ntmps32
  go_wp2_with fail
  go_region_law (first
    | (refine step_append_strK _ (by rfl) (.tmp 10) (.tmp 15) 41 9 (by rfl) (W + 1) 5 i0 Tryz.underlying41 Tryz.underlying9 hi0 hz0 hz1 hz2 (.slice VA (bs acc).size VC) (bs acc).size (strCells (bs acc)) (by rfl) (HO2.out) (r ++ s ++ ⟨#[10]⟩) (by rfl) N1.out N2.out hz2' ?_
       intro A cap w' hown' hgrow' hat'
       have hcx := (World.cell?_of_block (w := w2) (hgrow'.block W hlt2 hneW.out)).trans y0
       have hfx := (World.frozen?_of_block (w := w2) (hgrow'.block W hlt2 hneW.out)).trans z0)
    | (go_simp; go_at_call 47; refine (HRC.out _).mono ?_; rintro e w2 ⟨rfl, hb2⟩
       have HO2 := Lib.hid (own_below HO.out hb2)
       have hb2z := hb2.size
       have hlt2 : W < w2.heap.size := Nat.lt_of_lt_of_le hlt hb2z
       have hz2' : W + 1 ≤ w2.heap.size := hlt2
       have hneW := Lib.hid (show some W ≠ (Value.slice VA (bs acc).size VC).ownBlock by
         intro hc
         have := (HO2.out.lt W hc.symm).1
         omega)
       have y0 : w2.cell? ⟨W, 0, none⟩ = some (.slice VA (bs acc).size VC) := (World.cell?_of_block (w := w.drew) (hb2.block W hlt)).trans d0
       have z0 : w2.frozen? ⟨W, 0, none⟩ = false := (World.frozen?_of_block (w := w.drew) (hb2.block W hlt)).trans g0
       have HW2 := Lib.hid ((hb2.block W hlt).trans HW.out)))
  all_goals
    go_wp2_with fail
    go_end0
    have LE := line_endK (l := lineT d s.data.toList) hlt HW2.out ((Below.refl _ _).drew.trans hb2) HO2.out hneW.out HLN.out hown' hgrow' hat'
    rw [HSZ.out] at LE
    exact ⟨rfl, LE.2.2, LE.2.1⟩
end Go.Proofs.YtgmnbdfbbcpciaaGreatDoor
