/- Contracts of the functions that the statement reaches, and the plain mathematics beneath: several texts joined. -/
import Derived.Test.YtocolgmfcjfjpaaDoorSbF
import Derived.Lib.AppendStr
import Derived.Lib.Repeat
import Derived.Deep.RegionLaw
import Derived.Test.YtocolgmfcjfjpaaDoorSbA
import Derived.Test.YtocolgmfcjfjpaaDoorSbB
import Derived.Test.YtocolgmfcjfjpaaDoorSbC
import Derived.Test.YtocolgmfcjfjpaaDoorSbD
import Derived.Test.YtocolgmfcjfjpaaDoorSbE
namespace Go.Proofs.YtocolgmfcjfjpaaDoor
open Go.RowKit Go.Lib
set_option linter.unusedVariables false

set_option maxRecDepth 100000 in
set_option maxHeartbeats 4000000 in
theorem bare_21 {N : Nat} (ih : ∀ N', N' < N → BareC N') (ln : Int) (s : ByteArray) (k n : Int) (t : ByteArray) (v : VL) (va : Option Addr) (vc : Nat) (sub : NL) (sa : Option Addr) (sc : Nat) (ea : Nat → Addr) (w : World) (hN : sub.tot < N) (hsh : ShAt w ea) (hnd : NdIn w 21 ln s k n t v va vc sub sa sc) (hm : sub.len = 3) :
    Calls Tryd.prog 13 #[.agg #[.int .i64 21, .int .i64 ln, .string s, .int .i64 k, .int .i64 n, .string t, .slice va v.len vc, .slice sa sub.len sc]] w (SayT w (nodeT 21 s k n t v (ntx sub)).b) := by
  rw [hm]
  obtain ⟨wa, hwa⟩ : ∃ wa, wa = w.alloc (.cells #[.int .i64 21, .int .i64 ln, .string s, .int .i64 k, .int .i64 n, .string t, .slice va v.len vc, .slice sa 3 sc] 29) := ⟨_, rfl⟩
  have hb : Below w.heap.size w wa := by rw [hwa]; exact (Below.refl _ _).alloc (Nat.le_refl _) _
  have hN1 : NdB wa w.heap.size (.int .i64 21) (.int .i64 ln) (.string s) (.int .i64 k) (.int .i64 n) (.string t) (.slice va v.len vc) (.slice sa 3 sc) := by rw [hwa]; exact NdB.new _ _ _ _ _ _ _ _ _
  have v0 := hN1.c0; have v7 := hN1.c7
  have u0 := v0
  have hwz : w.heap.size < wa.heap.size := by rw [hwa]; simp
  rw [hwa] at v0 v7
  obtain ⟨b, o, hA⟩ := sa_of hnd (by omega)
  obtain ⟨k0a0, k0a1, k0a2, k0a3, k0a4, k0a5, k0a6, k0a7, hbl0, K0⟩ := kid_of ih hN (hsh.below hb) (hnd.below hb) 0 (by omega) hA
  obtain ⟨k1a0, k1a1, k1a2, k1a3, k1a4, k1a5, k1a6, k1a7, hbl1, K1⟩ := kid_of ih hN (hsh.below hb) (hnd.below hb) 1 (by omega) hA
  obtain ⟨k2a0, k2a1, k2a2, k2a3, k2a4, k2a5, k2a6, k2a7, hbl2, K2⟩ := kid_of ih hN (hsh.below hb) (hnd.below hb) 2 (by omega) hA
  obtain ⟨x0, hx0⟩ : ∃ x, x = (ntx sub).getD 0 default := ⟨_, rfl⟩
  rw [← hx0] at K0
  rw [show o + 0 * 8 = o from by omega] at K0
  obtain ⟨x1, hx1⟩ : ∃ x, x = (ntx sub).getD 1 default := ⟨_, rfl⟩
  rw [← hx1] at K1
  rw [show o + 1 * 8 = o + 8 from rfl] at K1
  obtain ⟨x2, hx2⟩ : ∃ x, x = (ntx sub).getD 2 default := ⟨_, rfl⟩
  rw [← hx2] at K2
  rw [show o + 2 * 8 = o + 16 from rfl] at K2
  have HT := Lib.hid (show bs (nodeT 21 s k n t v (ntx sub)).b = bs (inT x0) ++ ⟨#[91]⟩ ++ bs x1.b ++ ⟨#[46, 46]⟩ ++ bs x2.b ++ ⟨#[93]⟩ by
    have e : (nodeT 21 s k n t v (ntx sub)).b = (inT x0) ++ [91] ++ x1.b ++ [46, 46] ++ x2.b ++ [93] := by rw [hx0, hx1, hx2]; rfl
    rw [e]; apply ByteArray.ext; simp [bs])
  rw [show SayT w (nodeT 21 s k n t v (ntx sub)).b = fun e w' => e = .returned (.string (bs (nodeT 21 s k n t v (ntx sub)).b)) ∧ Below w.heap.size w w' from rfl, HT.out]
  obtain ⟨c00, c01, c02, c03, c04, c05, c06, c07, ⟨z0a, z0b, z0c, z0d⟩, BC0, IC0, NC0, CC0⟩ := K0
  rw [← bs_size] at z0a
  rw [← bs_size] at z0b
  rw [← bs_size] at z0c
  rw [← bs_size] at z0d
  obtain ⟨c10, c11, c12, c13, c14, c15, c16, c17, ⟨z1a, z1b, z1c, z1d⟩, BC1, IC1, NC1, CC1⟩ := K1
  rw [← bs_size] at z1a
  rw [← bs_size] at z1b
  rw [← bs_size] at z1c
  rw [← bs_size] at z1d
  obtain ⟨c20, c21, c22, c23, c24, c25, c26, c27, ⟨z2a, z2b, z2c, z2d⟩, BC2, IC2, NC2, CC2⟩ := K2
  rw [← bs_size] at z2a
  rw [← bs_size] at z2b
  rw [← bs_size] at z2c
  rw [← bs_size] at z2d
  have s1 : ¬ (9223372036854775807 < (bs (inT x0)).size + 1) := by omega
  have s2 : ¬ (9223372036854775807 < (bs (inT x0)).size + 1 + (bs x1.b).size) := by omega
  have s3 : ¬ (9223372036854775807 < (bs (inT x0)).size + 1 + (bs x1.b).size + 2) := by omega
  have s4 : ¬ (9223372036854775807 < (bs (inT x0)).size + 1 + (bs x1.b).size + 2 + (bs x2.b).size) := by omega
  have s5 : ¬ (9223372036854775807 < (bs (inT x0)).size + 1 + (bs x1.b).size + 2 + (bs x2.b).size + 1) := by omega
  obtain ⟨S, hS⟩ : ∃ S : World → Prop, S = fun W => W.cell? ⟨b, o, none⟩ = some k0a0 ∧ W.cell? ⟨b, o + 1, none⟩ = some k0a1 ∧ W.cell? ⟨b, o + 2, none⟩ = some k0a2 ∧ W.cell? ⟨b, o + 3, none⟩ = some k0a3 ∧ W.cell? ⟨b, o + 4, none⟩ = some k0a4 ∧ W.cell? ⟨b, o + 5, none⟩ = some k0a5 ∧ W.cell? ⟨b, o + 6, none⟩ = some k0a6 ∧ W.cell? ⟨b, o + 7, none⟩ = some k0a7 ∧ W.cell? ⟨b, o + 8, none⟩ = some k1a0 ∧ W.cell? ⟨b, o + 8 + 1, none⟩ = some k1a1 ∧ W.cell? ⟨b, o + 8 + 2, none⟩ = some k1a2 ∧ W.cell? ⟨b, o + 8 + 3, none⟩ = some k1a3 ∧ W.cell? ⟨b, o + 8 + 4, none⟩ = some k1a4 ∧ W.cell? ⟨b, o + 8 + 5, none⟩ = some k1a5 ∧ W.cell? ⟨b, o + 8 + 6, none⟩ = some k1a6 ∧ W.cell? ⟨b, o + 8 + 7, none⟩ = some k1a7 ∧ W.cell? ⟨b, o + 16, none⟩ = some k2a0 ∧ W.cell? ⟨b, o + 16 + 1, none⟩ = some k2a1 ∧ W.cell? ⟨b, o + 16 + 2, none⟩ = some k2a2 ∧ W.cell? ⟨b, o + 16 + 3, none⟩ = some k2a3 ∧ W.cell? ⟨b, o + 16 + 4, none⟩ = some k2a4 ∧ W.cell? ⟨b, o + 16 + 5, none⟩ = some k2a5 ∧ W.cell? ⟨b, o + 16 + 6, none⟩ = some k2a6 ∧ W.cell? ⟨b, o + 16 + 7, none⟩ = some k2a7 ∧ Below wa.heap.size wa W := ⟨_, rfl⟩
  have KS : ∀ W, Below wa.heap.size wa W → S W := fun W h => by rw [hS]; exact ⟨cellB h c00 hbl0, cellB h c01 hbl0, cellB h c02 hbl0, cellB h c03 hbl0, cellB h c04 hbl0, cellB h c05 hbl0, cellB h c06 hbl0, cellB h c07 hbl0, cellB h c10 hbl1, cellB h c11 hbl1, cellB h c12 hbl1, cellB h c13 hbl1, cellB h c14 hbl1, cellB h c15 hbl1, cellB h c16 hbl1, cellB h c17 hbl1, cellB h c20 hbl2, cellB h c21 hbl2, cellB h c22 hbl2, cellB h c23 hbl2, cellB h c24 hbl2, cellB h c25 hbl2, cellB h c26 hbl2, cellB h c27 hbl2, h⟩
  have BS : ∀ W, S W → Below wa.heap.size wa W := fun W h => by rw [hS] at h; exact h.2.2.2.2.2.2.2.2.2.2.2.2.2.2.2.2.2.2.2.2.2.2.2.2
  have C0 := Lib.hid (fun W (h : S W) => (IC0 W (BS W h)).mono (R' := fun e W' => e = .returned (.string (bs (inT x0))) ∧ S W') fun e W' ⟨h1, h2⟩ => ⟨h1, KS _ ((BS W h).trans (below_le' h2 (BS W h).size))⟩)
  have C1 := Lib.hid (fun W (h : S W) => (BC1 W (BS W h)).mono (R' := fun e W' => e = .returned (.string (bs x1.b)) ∧ S W') fun e W' ⟨h1, h2⟩ => ⟨h1, KS _ ((BS W h).trans (below_le' h2 (BS W h).size))⟩)
  have C2 := Lib.hid (fun W (h : S W) => (BC2 W (BS W h)).mono (R' := fun e W' => e = .returned (.string (bs x2.b)) ∧ S W') fun e W' ⟨h1, h2⟩ => ⟨h1, KS _ ((BS W h).trans (below_le' h2 (BS W h).size))⟩)
  have K0 : S wa.drew := KS _ ((Below.refl _ _).drew)
  have KA : S wa := KS _ (Below.refl _ _)
  have BSS := Lib.hid BS
  have HB := Lib.hid hb
  have HWA := Lib.hid hwa
  subst hA
  have i0 : 0 < sub.len := by omega
  have i1 : 1 < sub.len := by omega
  have i2 : 2 < sub.len := by omega
  clear hm
  clear KS BS hb hN1 hwa hsh hnd hN ih HT BC0 IC0 NC0 CC0 BC1 IC1 NC1 CC1 BC2 IC2 NC2 CC2 hx0 hx1 hx2 u0 
  subst hS
  go_enter Tryd.func13, Tryd.ntmps13
  go_wp2_with fail
  rw [← HWA.out]
  go_region_held3 (fun W => W.cell? ⟨b, o, none⟩ = some k0a0 ∧ W.cell? ⟨b, o + 1, none⟩ = some k0a1 ∧ W.cell? ⟨b, o + 2, none⟩ = some k0a2 ∧ W.cell? ⟨b, o + 3, none⟩ = some k0a3 ∧ W.cell? ⟨b, o + 4, none⟩ = some k0a4 ∧ W.cell? ⟨b, o + 5, none⟩ = some k0a5 ∧ W.cell? ⟨b, o + 6, none⟩ = some k0a6 ∧ W.cell? ⟨b, o + 7, none⟩ = some k0a7 ∧ W.cell? ⟨b, o + 8, none⟩ = some k1a0 ∧ W.cell? ⟨b, o + 8 + 1, none⟩ = some k1a1 ∧ W.cell? ⟨b, o + 8 + 2, none⟩ = some k1a2 ∧ W.cell? ⟨b, o + 8 + 3, none⟩ = some k1a3 ∧ W.cell? ⟨b, o + 8 + 4, none⟩ = some k1a4 ∧ W.cell? ⟨b, o + 8 + 5, none⟩ = some k1a5 ∧ W.cell? ⟨b, o + 8 + 6, none⟩ = some k1a6 ∧ W.cell? ⟨b, o + 8 + 7, none⟩ = some k1a7 ∧ W.cell? ⟨b, o + 16, none⟩ = some k2a0 ∧ W.cell? ⟨b, o + 16 + 1, none⟩ = some k2a1 ∧ W.cell? ⟨b, o + 16 + 2, none⟩ = some k2a2 ∧ W.cell? ⟨b, o + 16 + 3, none⟩ = some k2a3 ∧ W.cell? ⟨b, o + 16 + 4, none⟩ = some k2a4 ∧ W.cell? ⟨b, o + 16 + 5, none⟩ = some k2a5 ∧ W.cell? ⟨b, o + 16 + 6, none⟩ = some k2a6 ∧ W.cell? ⟨b, o + 16 + 7, none⟩ = some k2a7 ∧ Below wa.heap.size wa W)
    (first | (with_reducible assumption) | (with_reducible exact K0) | (with_reducible exact KA))
    (first
      | (go_at_call 18; with_reducible refine (C0.out _ ?_).mono ?_; (with_reducible assumption); rintro e w10 ⟨rfl, hs10⟩)
      | (go_at_call 13; with_reducible refine (C1.out _ ?_).mono ?_; (with_reducible assumption); rintro e w11 ⟨rfl, hs11⟩)
      | (go_at_call 13; with_reducible refine (C2.out _ ?_).mono ?_; (with_reducible assumption); rintro e w12 ⟨rfl, hs12⟩))
  all_goals
    go_wp2_with fail
    go_ret
    exact ⟨rfl, HB.out.trans (below_le' (BSS.out _ (by with_reducible assumption)) HB.out.size)⟩
end Go.Proofs.YtocolgmfcjfjpaaDoor
namespace Go.Proofs.YtocolgmfcjfjpaaDoor
open Go.RowKit Go.Lib
set_option linter.unusedVariables false

set_option maxRecDepth 100000 in
set_option maxHeartbeats 4000000 in
theorem bare_22 {N : Nat} (ih : ∀ N', N' < N → BareC N') (ln : Int) (s : ByteArray) (k n : Int) (t : ByteArray) (v : VL) (va : Option Addr) (vc : Nat) (sub : NL) (sa : Option Addr) (sc : Nat) (ea : Nat → Addr) (w : World) (hN : sub.tot < N) (hsh : ShAt w ea) (hnd : NdIn w 22 ln s k n t v va vc sub sa sc) (hm : sub.len = 2) :
    Calls Tryd.prog 13 #[.agg #[.int .i64 22, .int .i64 ln, .string s, .int .i64 k, .int .i64 n, .string t, .slice va v.len vc, .slice sa sub.len sc]] w (SayT w (nodeT 22 s k n t v (ntx sub)).b) := by
  rw [hm]
  obtain ⟨wa, hwa⟩ : ∃ wa, wa = w.alloc (.cells #[.int .i64 22, .int .i64 ln, .string s, .int .i64 k, .int .i64 n, .string t, .slice va v.len vc, .slice sa 2 sc] 29) := ⟨_, rfl⟩
  have hb : Below w.heap.size w wa := by rw [hwa]; exact (Below.refl _ _).alloc (Nat.le_refl _) _
  have hN1 : NdB wa w.heap.size (.int .i64 22) (.int .i64 ln) (.string s) (.int .i64 k) (.int .i64 n) (.string t) (.slice va v.len vc) (.slice sa 2 sc) := by rw [hwa]; exact NdB.new _ _ _ _ _ _ _ _ _
  have v0 := hN1.c0; have v7 := hN1.c7
  have u0 := v0
  have hwz : w.heap.size < wa.heap.size := by rw [hwa]; simp
  rw [hwa] at v0 v7
  obtain ⟨b, o, hA⟩ := sa_of hnd (by omega)
  obtain ⟨k0a0, k0a1, k0a2, k0a3, k0a4, k0a5, k0a6, k0a7, hbl0, K0⟩ := kid_of ih hN (hsh.below hb) (hnd.below hb) 0 (by omega) hA
  obtain ⟨k1a0, k1a1, k1a2, k1a3, k1a4, k1a5, k1a6, k1a7, hbl1, K1⟩ := kid_of ih hN (hsh.below hb) (hnd.below hb) 1 (by omega) hA
  obtain ⟨x0, hx0⟩ : ∃ x, x = (ntx sub).getD 0 default := ⟨_, rfl⟩
  rw [← hx0] at K0
  rw [show o + 0 * 8 = o from by omega] at K0
  obtain ⟨x1, hx1⟩ : ∃ x, x = (ntx sub).getD 1 default := ⟨_, rfl⟩
  rw [← hx1] at K1
  rw [show o + 1 * 8 = o + 8 from rfl] at K1
  have HT := Lib.hid (show bs (nodeT 22 s k n t v (ntx sub)).b = bs (inT x0) ++ ⟨#[46]⟩ ++ bs x1.nm by
    have e : (nodeT 22 s k n t v (ntx sub)).b = (inT x0) ++ [46] ++ x1.nm := by rw [hx0, hx1]; rfl
    rw [e]; apply ByteArray.ext; simp [bs])
  rw [show SayT w (nodeT 22 s k n t v (ntx sub)).b = fun e w' => e = .returned (.string (bs (nodeT 22 s k n t v (ntx sub)).b)) ∧ Below w.heap.size w w' from rfl, HT.out]
  obtain ⟨c00, c01, c02, c03, c04, c05, c06, c07, ⟨z0a, z0b, z0c, z0d⟩, BC0, IC0, NC0, CC0⟩ := K0
  rw [← bs_size] at z0a
  rw [← bs_size] at z0b
  rw [← bs_size] at z0c
  rw [← bs_size] at z0d
  obtain ⟨c10, c11, c12, c13, c14, c15, c16, c17, ⟨z1a, z1b, z1c, z1d⟩, BC1, IC1, NC1, CC1⟩ := K1
  rw [← bs_size] at z1a
  rw [← bs_size] at z1b
  rw [← bs_size] at z1c
  rw [← bs_size] at z1d
  have s1 : ¬ (9223372036854775807 < (bs (inT x0)).size + 1) := by omega
  have s2 : ¬ (9223372036854775807 < (bs (inT x0)).size + 1 + (bs x1.nm).size) := by omega
  obtain ⟨S, hS⟩ : ∃ S : World → Prop, S = fun W => W.cell? ⟨b, o, none⟩ = some k0a0 ∧ W.cell? ⟨b, o + 1, none⟩ = some k0a1 ∧ W.cell? ⟨b, o + 2, none⟩ = some k0a2 ∧ W.cell? ⟨b, o + 3, none⟩ = some k0a3 ∧ W.cell? ⟨b, o + 4, none⟩ = some k0a4 ∧ W.cell? ⟨b, o + 5, none⟩ = some k0a5 ∧ W.cell? ⟨b, o + 6, none⟩ = some k0a6 ∧ W.cell? ⟨b, o + 7, none⟩ = some k0a7 ∧ W.cell? ⟨b, o + 8, none⟩ = some k1a0 ∧ W.cell? ⟨b, o + 8 + 1, none⟩ = some k1a1 ∧ W.cell? ⟨b, o + 8 + 2, none⟩ = some k1a2 ∧ W.cell? ⟨b, o + 8 + 3, none⟩ = some k1a3 ∧ W.cell? ⟨b, o + 8 + 4, none⟩ = some k1a4 ∧ W.cell? ⟨b, o + 8 + 5, none⟩ = some k1a5 ∧ W.cell? ⟨b, o + 8 + 6, none⟩ = some k1a6 ∧ W.cell? ⟨b, o + 8 + 7, none⟩ = some k1a7 ∧ Below wa.heap.size wa W := ⟨_, rfl⟩
  have KS : ∀ W, Below wa.heap.size wa W → S W := fun W h => by rw [hS]; exact ⟨cellB h c00 hbl0, cellB h c01 hbl0, cellB h c02 hbl0, cellB h c03 hbl0, cellB h c04 hbl0, cellB h c05 hbl0, cellB h c06 hbl0, cellB h c07 hbl0, cellB h c10 hbl1, cellB h c11 hbl1, cellB h c12 hbl1, cellB h c13 hbl1, cellB h c14 hbl1, cellB h c15 hbl1, cellB h c16 hbl1, cellB h c17 hbl1, h⟩
  have BS : ∀ W, S W → Below wa.heap.size wa W := fun W h => by rw [hS] at h; exact h.2.2.2.2.2.2.2.2.2.2.2.2.2.2.2.2
  have C0 := Lib.hid (fun W (h : S W) => (IC0 W (BS W h)).mono (R' := fun e W' => e = .returned (.string (bs (inT x0))) ∧ S W') fun e W' ⟨h1, h2⟩ => ⟨h1, KS _ ((BS W h).trans (below_le' h2 (BS W h).size))⟩)
  have C1 := Lib.hid (fun W (h : S W) => (NC1 W (BS W h)).mono (R' := fun e W' => e = .returned (.string (bs x1.nm)) ∧ S W') fun e W' ⟨h1, h2⟩ => ⟨h1, KS _ ((BS W h).trans (below_le' h2 (BS W h).size))⟩)
  have K0 : S wa.drew := KS _ ((Below.refl _ _).drew)
  have KA : S wa := KS _ (Below.refl _ _)
  have BSS := Lib.hid BS
  have HB := Lib.hid hb
  have HWA := Lib.hid hwa
  subst hA
  have i0 : 0 < sub.len := by omega
  have i1 : 1 < sub.len := by omega
  clear hm
  clear KS BS hb hN1 hwa hsh hnd hN ih HT BC0 IC0 NC0 CC0 BC1 IC1 NC1 CC1 hx0 hx1 u0 
  subst hS
  go_enter Tryd.func13, Tryd.ntmps13
  go_wp2_with fail
  rw [← HWA.out]
  go_region_held3 (fun W => W.cell? ⟨b, o, none⟩ = some k0a0 ∧ W.cell? ⟨b, o + 1, none⟩ = some k0a1 ∧ W.cell? ⟨b, o + 2, none⟩ = some k0a2 ∧ W.cell? ⟨b, o + 3, none⟩ = some k0a3 ∧ W.cell? ⟨b, o + 4, none⟩ = some k0a4 ∧ W.cell? ⟨b, o + 5, none⟩ = some k0a5 ∧ W.cell? ⟨b, o + 6, none⟩ = some k0a6 ∧ W.cell? ⟨b, o + 7, none⟩ = some k0a7 ∧ W.cell? ⟨b, o + 8, none⟩ = some k1a0 ∧ W.cell? ⟨b, o + 8 + 1, none⟩ = some k1a1 ∧ W.cell? ⟨b, o + 8 + 2, none⟩ = some k1a2 ∧ W.cell? ⟨b, o + 8 + 3, none⟩ = some k1a3 ∧ W.cell? ⟨b, o + 8 + 4, none⟩ = some k1a4 ∧ W.cell? ⟨b, o + 8 + 5, none⟩ = some k1a5 ∧ W.cell? ⟨b, o + 8 + 6, none⟩ = some k1a6 ∧ W.cell? ⟨b, o + 8 + 7, none⟩ = some k1a7 ∧ Below wa.heap.size wa W)
    (first | (with_reducible assumption) | (with_reducible exact K0) | (with_reducible exact KA))
    (first
      | (go_at_call 18; with_reducible refine (C0.out _ ?_).mono ?_; (with_reducible assumption); rintro e w10 ⟨rfl, hs10⟩)
      | (go_at_call 19; with_reducible refine (C1.out _ ?_).mono ?_; (with_reducible assumption); rintro e w11 ⟨rfl, hs11⟩))
  all_goals
    go_wp2_with fail
    go_ret
    exact ⟨rfl, HB.out.trans (below_le' (BSS.out _ (by with_reducible assumption)) HB.out.size)⟩

set_option maxRecDepth 100000 in
set_option maxHeartbeats 4000000 in
theorem bare_bin {N : Nat} (ih : ∀ N', N' < N → BareC N') (op ln : Int) (s : ByteArray) (k n : Int) (t : ByteArray) (v : VL) (va : Option Addr) (vc : Nat) (sub : NL) (sa : Option Addr) (sc : Nat) (ea : Nat → Addr) (w : World) (hN : sub.tot < N) (hsh : ShAt w ea) (hnd : NdIn w op ln s k n t v va vc sub sa sc) (hm : sub.len = 2) (hop : 5 ≤ op ∧ op ≤ 18) :
    Calls Tryd.prog 13 #[.agg #[.int .i64 op, .int .i64 ln, .string s, .int .i64 k, .int .i64 n, .string t, .slice va v.len vc, .slice sa sub.len sc]] w (SayT w (nodeT op s k n t v (ntx sub)).b) := by
  rw [hm]
  obtain ⟨wa, hwa⟩ : ∃ wa, wa = w.alloc (.cells #[.int .i64 op, .int .i64 ln, .string s, .int .i64 k, .int .i64 n, .string t, .slice va v.len vc, .slice sa 2 sc] 29) := ⟨_, rfl⟩
  have hb : Below w.heap.size w wa := by rw [hwa]; exact (Below.refl _ _).alloc (Nat.le_refl _) _
  have hN1 : NdB wa w.heap.size (.int .i64 op) (.int .i64 ln) (.string s) (.int .i64 k) (.int .i64 n) (.string t) (.slice va v.len vc) (.slice sa 2 sc) := by rw [hwa]; exact NdB.new _ _ _ _ _ _ _ _ _
  have v0 := hN1.c0; have v7 := hN1.c7
  have u0 := v0
  have hwz : w.heap.size < wa.heap.size := by rw [hwa]; simp
  rw [hwa] at v0 v7
  obtain ⟨b, o, hA⟩ := sa_of hnd (by omega)
  obtain ⟨k0a0, k0a1, k0a2, k0a3, k0a4, k0a5, k0a6, k0a7, hbl0, K0⟩ := kid_of ih hN (hsh.below hb) (hnd.below hb) 0 (by omega) hA
  obtain ⟨k1a0, k1a1, k1a2, k1a3, k1a4, k1a5, k1a6, k1a7, hbl1, K1⟩ := kid_of ih hN (hsh.below hb) (hnd.below hb) 1 (by omega) hA
  obtain ⟨x0, hx0⟩ : ∃ x, x = (ntx sub).getD 0 default := ⟨_, rfl⟩
  rw [← hx0] at K0
  rw [show o + 0 * 8 = o from by omega] at K0
  obtain ⟨x1, hx1⟩ : ∃ x, x = (ntx sub).getD 1 default := ⟨_, rfl⟩
  rw [← hx1] at K1
  rw [show o + 1 * 8 = o + 8 from rfl] at K1
  have HT := Lib.hid (show bs (nodeT op s k n t v (ntx sub)).b = bs (inT x0) ++ ⟨#[32]⟩ ++ bs (signT op) ++ ⟨#[32]⟩ ++ bs (inT x1) by
    have e : (nodeT op s k n t v (ntx sub)).b = inT x0 ++ [32] ++ signT op ++ [32] ++ inT x1 := by
      rw [hx0, hx1]
      show bareT _ _ _ _ = _
      unfold bareT
      simp only
      iterate 15 rw [if_neg (by omega)]
    rw [e]; apply ByteArray.ext; simp [bs])
  have SG := Lib.hid (fun W => sign_sc op W hop)
  have hsg : (bs (signT op)).size ≤ 2 := by rw [bs_size]; exact signT_len op
  rw [show SayT w (nodeT op s k n t v (ntx sub)).b = fun e w' => e = .returned (.string (bs (nodeT op s k n t v (ntx sub)).b)) ∧ Below w.heap.size w w' from rfl, HT.out]
  obtain ⟨c00, c01, c02, c03, c04, c05, c06, c07, ⟨z0a, z0b, z0c, z0d⟩, BC0, IC0, NC0, CC0⟩ := K0
  rw [← bs_size] at z0a
  rw [← bs_size] at z0b
  rw [← bs_size] at z0c
  rw [← bs_size] at z0d
  obtain ⟨c10, c11, c12, c13, c14, c15, c16, c17, ⟨z1a, z1b, z1c, z1d⟩, BC1, IC1, NC1, CC1⟩ := K1
  rw [← bs_size] at z1a
  rw [← bs_size] at z1b
  rw [← bs_size] at z1c
  rw [← bs_size] at z1d
  have s1 : ¬ (9223372036854775807 < (bs (inT x0)).size + 1) := by omega
  have s2 : ¬ (9223372036854775807 < (bs (inT x0)).size + 1 + (bs (signT op)).size) := by omega
  have s3 : ¬ (9223372036854775807 < (bs (inT x0)).size + 1 + (bs (signT op)).size + 1) := by omega
  have s4 : ¬ (9223372036854775807 < (bs (inT x0)).size + 1 + (bs (signT op)).size + 1 + (bs (inT x1)).size) := by omega
  obtain ⟨S, hS⟩ : ∃ S : World → Prop, S = fun W => W.cell? ⟨b, o, none⟩ = some k0a0 ∧ W.cell? ⟨b, o + 1, none⟩ = some k0a1 ∧ W.cell? ⟨b, o + 2, none⟩ = some k0a2 ∧ W.cell? ⟨b, o + 3, none⟩ = some k0a3 ∧ W.cell? ⟨b, o + 4, none⟩ = some k0a4 ∧ W.cell? ⟨b, o + 5, none⟩ = some k0a5 ∧ W.cell? ⟨b, o + 6, none⟩ = some k0a6 ∧ W.cell? ⟨b, o + 7, none⟩ = some k0a7 ∧ W.cell? ⟨b, o + 8, none⟩ = some k1a0 ∧ W.cell? ⟨b, o + 8 + 1, none⟩ = some k1a1 ∧ W.cell? ⟨b, o + 8 + 2, none⟩ = some k1a2 ∧ W.cell? ⟨b, o + 8 + 3, none⟩ = some k1a3 ∧ W.cell? ⟨b, o + 8 + 4, none⟩ = some k1a4 ∧ W.cell? ⟨b, o + 8 + 5, none⟩ = some k1a5 ∧ W.cell? ⟨b, o + 8 + 6, none⟩ = some k1a6 ∧ W.cell? ⟨b, o + 8 + 7, none⟩ = some k1a7 ∧ W.cell? ⟨w.heap.size, 0, none⟩ = some (.int .i64 op) ∧ Below wa.heap.size wa W := ⟨_, rfl⟩
  have KS : ∀ W, Below wa.heap.size wa W → S W := fun W h => by rw [hS]; exact ⟨cellB h c00 hbl0, cellB h c01 hbl0, cellB h c02 hbl0, cellB h c03 hbl0, cellB h c04 hbl0, cellB h c05 hbl0, cellB h c06 hbl0, cellB h c07 hbl0, cellB h c10 hbl1, cellB h c11 hbl1, cellB h c12 hbl1, cellB h c13 hbl1, cellB h c14 hbl1, cellB h c15 hbl1, cellB h c16 hbl1, cellB h c17 hbl1, cellB h u0 hwz, h⟩
  have BS : ∀ W, S W → Below wa.heap.size wa W := fun W h => by rw [hS] at h; exact h.2.2.2.2.2.2.2.2.2.2.2.2.2.2.2.2.2
  have C0 := Lib.hid (fun W (h : S W) => (IC0 W (BS W h)).mono (R' := fun e W' => e = .returned (.string (bs (inT x0))) ∧ S W') fun e W' ⟨h1, h2⟩ => ⟨h1, KS _ ((BS W h).trans (below_le' h2 (BS W h).size))⟩)
  have C1 := Lib.hid (fun W (h : S W) => (IC1 W (BS W h)).mono (R' := fun e W' => e = .returned (.string (bs (inT x1))) ∧ S W') fun e W' ⟨h1, h2⟩ => ⟨h1, KS _ ((BS W h).trans (below_le' h2 (BS W h).size))⟩)
  have CS := Lib.hid (fun W (h : S W) => (SG.out W).mono (R' := fun e W' => e = .returned (.string (bs (signT op))) ∧ S W') fun e W' ⟨h1, h2⟩ => ⟨h1, KS _ ((BS W h).trans (below_le' h2 (BS W h).size))⟩)
  have K0 : S wa.drew := KS _ ((Below.refl _ _).drew)
  have KA : S wa := KS _ (Below.refl _ _)
  have BSS := Lib.hid BS
  have HB := Lib.hid hb
  have HWA := Lib.hid hwa
  subst hA
  have i0 : 0 < sub.len := by omega
  have i1 : 1 < sub.len := by omega
  clear hm
  clear KS BS hb hN1 hwa hsh hnd hN ih HT BC0 IC0 NC0 CC0 BC1 IC1 NC1 CC1 hx0 hx1 u0 SG
  subst hS
  have q1 := beq_no (show op ≠ 1 by omega)
  have q2 := beq_no (show op ≠ 2 by omega)
  have q3 := beq_no (show op ≠ 3 by omega)
  have q4 := beq_no (show op ≠ 4 by omega)
  have q19 := beq_no (show op ≠ 19 by omega)
  have q20 := beq_no (show op ≠ 20 by omega)
  have q21 := beq_no (show op ≠ 21 by omega)
  have q22 := beq_no (show op ≠ 22 by omega)
  have q23 := beq_no (show op ≠ 23 by omega)
  have q24 := beq_no (show op ≠ 24 by omega)
  have q25 := beq_no (show op ≠ 25 by omega)
  have q26 := beq_no (show op ≠ 26 by omega)
  have q27 := beq_no (show op ≠ 27 by omega)
  have q28 := beq_no (show op ≠ 28 by omega)
  have q29 := beq_no (show op ≠ 29 by omega)
  clear hop
  go_enter Tryd.func13, Tryd.ntmps13
  go_wp2_with fail
  rw [← HWA.out]
  go_region_held3 (fun W => W.cell? ⟨b, o, none⟩ = some k0a0 ∧ W.cell? ⟨b, o + 1, none⟩ = some k0a1 ∧ W.cell? ⟨b, o + 2, none⟩ = some k0a2 ∧ W.cell? ⟨b, o + 3, none⟩ = some k0a3 ∧ W.cell? ⟨b, o + 4, none⟩ = some k0a4 ∧ W.cell? ⟨b, o + 5, none⟩ = some k0a5 ∧ W.cell? ⟨b, o + 6, none⟩ = some k0a6 ∧ W.cell? ⟨b, o + 7, none⟩ = some k0a7 ∧ W.cell? ⟨b, o + 8, none⟩ = some k1a0 ∧ W.cell? ⟨b, o + 8 + 1, none⟩ = some k1a1 ∧ W.cell? ⟨b, o + 8 + 2, none⟩ = some k1a2 ∧ W.cell? ⟨b, o + 8 + 3, none⟩ = some k1a3 ∧ W.cell? ⟨b, o + 8 + 4, none⟩ = some k1a4 ∧ W.cell? ⟨b, o + 8 + 5, none⟩ = some k1a5 ∧ W.cell? ⟨b, o + 8 + 6, none⟩ = some k1a6 ∧ W.cell? ⟨b, o + 8 + 7, none⟩ = some k1a7 ∧ W.cell? ⟨w.heap.size, 0, none⟩ = some (.int .i64 op) ∧ Below wa.heap.size wa W)
    (first | (with_reducible assumption) | (with_reducible exact K0) | (with_reducible exact KA))
    (first
      | (go_at_call 18; with_reducible refine (C0.out _ ?_).mono ?_; (with_reducible assumption); rintro e w10 ⟨rfl, hs10⟩)
      | (go_at_call 18; with_reducible refine (C1.out _ ?_).mono ?_; (with_reducible assumption); rintro e w11 ⟨rfl, hs11⟩)
      | (go_at_call 22; with_reducible refine (CS.out _ ?_).mono ?_; (with_reducible assumption); rintro e w19 ⟨rfl, hs19⟩))
  all_goals
    go_wp2_with fail
    go_ret
    exact ⟨rfl, HB.out.trans (below_le' (BSS.out _ (by with_reducible assumption)) HB.out.size)⟩
end Go.Proofs.YtocolgmfcjfjpaaDoor
namespace Go.Proofs.YtocolgmfcjfjpaaDoor
open Go.RowKit Go.Lib
set_option linter.unusedVariables false

set_option maxRecDepth 100000 in
set_option maxHeartbeats 2000000 in
theorem bare_1 (ln : Int) (s : ByteArray) (k n : Int) (t : ByteArray) (v : VL) (va : Option Addr) (vc : Nat) (sub : NL) (sa : Option Addr) (sc : Nat) (ea : Nat → Addr) (w : World) (hsh : ShAt w ea) (hnd : NdIn w 1 ln s k n t v va vc sub sa sc) :
    Calls Tryd.prog 13 #[.agg #[.int .i64 1, .int .i64 ln, .string s, .int .i64 k, .int .i64 n, .string t, .slice va v.len vc, .slice sa sub.len sc]] w (SayT w (nodeT 1 s k n t v (ntx sub)).b) := by
  obtain ⟨wa, hwa⟩ : ∃ wa, wa = w.alloc (.cells #[.int .i64 1, .int .i64 ln, .string s, .int .i64 k, .int .i64 n, .string t, .slice va v.len vc, .slice sa sub.len sc] 29) := ⟨_, rfl⟩
  have hb : Below w.heap.size w wa := by rw [hwa]; exact (Below.refl _ _).alloc (Nat.le_refl _) _
  have hN1 : NdB wa w.heap.size (.int .i64 1) (.int .i64 ln) (.string s) (.int .i64 k) (.int .i64 n) (.string t) (.slice va v.len vc) (.slice sa sub.len sc) := by rw [hwa]; exact NdB.new _ _ _ _ _ _ _ _ _
  have v0 := hN1.c0; have v3 := hN1.c3; have v4 := hN1.c4; have v5 := hN1.c5; have v6 := hN1.c6; have v7 := hN1.c7
  rw [hwa] at v0 v3 v4 v5 v6 v7
  obtain ⟨hw1, h64, hft⟩ := hnd.ex.2.2.1 rfl
  have hsa := hsh.below hb
  have TC := Lib.hid (Text_c k n t v va vc ea wa hsa.err hsa.tx hft h64 hnd.hvc (hnd.below hb).hv)
  have HT := Lib.hid (show bs (nodeT 1 s k n t v (ntx sub)).b = txtV k n t v by unfold txtV; rw [if_pos hw1]; rfl)
  rw [show SayT w (nodeT 1 s k n t v (ntx sub)).b = fun e w' => e = .returned (.string (bs (nodeT 1 s k n t v (ntx sub)).b)) ∧ Below w.heap.size w w' from rfl, HT.out]
  have HB := Lib.hid hb
  have HWA := Lib.hid hwa
  clear hb hN1 hwa hsh hnd hw1 h64 hft hsa
  go_enter Tryd.func13, Tryd.ntmps13
  go_wp2_with fail
  rw [← HWA.out]
  refine TC.out.mono ?_
  rintro e w10 ⟨rfl, hb10⟩
  have HB10 := Lib.hid (HB.out.trans (below_le' hb10 HB.out.size))
  clear hb10
  go_wp2_with fail
  go_ret
  exact ⟨rfl, HB10.out⟩

set_option maxRecDepth 100000 in
set_option maxHeartbeats 2000000 in
theorem bare_2 (ln : Int) (s : ByteArray) (k n : Int) (t : ByteArray) (v : VL) (va : Option Addr) (vc : Nat) (sub : NL) (sa : Option Addr) (sc : Nat) (w : World) :
    Calls Tryd.prog 13 #[.agg #[.int .i64 2, .int .i64 ln, .string s, .int .i64 k, .int .i64 n, .string t, .slice va v.len vc, .slice sa sub.len sc]] w (SayT w (nodeT 2 s k n t v (ntx sub)).b) := by
  obtain ⟨wa, hwa⟩ : ∃ wa, wa = w.alloc (.cells #[.int .i64 2, .int .i64 ln, .string s, .int .i64 k, .int .i64 n, .string t, .slice va v.len vc, .slice sa sub.len sc] 29) := ⟨_, rfl⟩
  have hb : Below w.heap.size w wa := by rw [hwa]; exact (Below.refl _ _).alloc (Nat.le_refl _) _
  have hN1 : NdB wa w.heap.size (.int .i64 2) (.int .i64 ln) (.string s) (.int .i64 k) (.int .i64 n) (.string t) (.slice va v.len vc) (.slice sa sub.len sc) := by rw [hwa]; exact NdB.new _ _ _ _ _ _ _ _ _
  have v0 := hN1.c0; have v2 := hN1.c2; have v7 := hN1.c7
  rw [hwa] at v0 v2 v7
  have HT := Lib.hid (show bs (nodeT 2 s k n t v (ntx sub)).b = s by show bs s.data.toList = s; apply ByteArray.ext; simp [bs])
  rw [show SayT w (nodeT 2 s k n t v (ntx sub)).b = fun e w' => e = .returned (.string (bs (nodeT 2 s k n t v (ntx sub)).b)) ∧ Below w.heap.size w w' from rfl, HT.out]
  have HB := Lib.hid hb
  have HWA := Lib.hid hwa
  clear hb hN1 hwa
  go_enter Tryd.func13, Tryd.ntmps13
  go_wp2_with fail
  rw [← HWA.out]
  go_ret
  exact ⟨rfl, HB.out⟩

set_option maxRecDepth 100000 in
set_option maxHeartbeats 2000000 in
theorem bare_25 {N : Nat} (ih : BareC N) (ln : Int) (s : ByteArray) (k n : Int) (t : ByteArray) (v : VL) (va : Option Addr) (vc : Nat) (sub : NL) (sa : Option Addr) (sc : Nat) (ea : Nat → Addr) (w : World) (hN : sub.tot ≤ N) (hsh : ShAt w ea) (hnd : NdIn w 25 ln s k n t v va vc sub sa sc) :
    Calls Tryd.prog 13 #[.agg #[.int .i64 25, .int .i64 ln, .string s, .int .i64 k, .int .i64 n, .string t, .slice va v.len vc, .slice sa sub.len sc]] w (SayT w (nodeT 25 s k n t v (ntx sub)).b) := by
  obtain ⟨wa, hwa⟩ : ∃ wa, wa = w.alloc (.cells #[.int .i64 25, .int .i64 ln, .string s, .int .i64 k, .int .i64 n, .string t, .slice va v.len vc, .slice sa sub.len sc] 29) := ⟨_, rfl⟩
  have hb : Below w.heap.size w wa := by rw [hwa]; exact (Below.refl _ _).alloc (Nat.le_refl _) _
  have hN1 : NdB wa w.heap.size (.int .i64 25) (.int .i64 ln) (.string s) (.int .i64 k) (.int .i64 n) (.string t) (.slice va v.len vc) (.slice sa sub.len sc) := by rw [hwa]; exact NdB.new _ _ _ _ _ _ _ _ _
  have v0 := hN1.c0; have v7 := hN1.c7
  rw [hwa] at v0 v7
  have hex := hnd.ex.2.2.2.2.2.1
  have RC := Lib.hid (row_of ih sub sa sc ea wa hN hnd.tot (hsh.below hb) hex hnd.hsc (hnd.below hb).hsub)
  have hrl := ex_row_len hex hnd.tot
  rw [← bs_size] at hrl
  have HT := Lib.hid (show bs (nodeT 25 s k n t v (ntx sub)).b = ⟨#[123]⟩ ++ bs (rowT (ntx sub)) ++ ⟨#[125]⟩ by
    have e : (nodeT 25 s k n t v (ntx sub)).b = [123] ++ rowT (ntx sub) ++ [125] := rfl
    rw [e]; apply ByteArray.ext; simp [bs])
  rw [show SayT w (nodeT 25 s k n t v (ntx sub)).b = fun e w' => e = .returned (.string (bs (nodeT 25 s k n t v (ntx sub)).b)) ∧ Below w.heap.size w w' from rfl, HT.out]
  have HB := Lib.hid hb
  have HWA := Lib.hid hwa
  clear hb hN1 hwa hsh hnd hex
  go_enter Tryd.func13, Tryd.ntmps13
  go_wp2_with fail
  rw [← HWA.out]
  refine RC.out.mono ?_
  rintro e w10 ⟨rfl, hb10⟩
  have HB10 := Lib.hid (HB.out.trans (below_le' hb10 HB.out.size))
  clear hb10
  go_wp2_with fail
  go_ret
  exact ⟨rfl, HB10.out⟩

theorem bs_head {l : List UInt8} (h : 0 < (bs l).size) : (bs l)[0] = l.getD 0 0 := by
  have hl : 0 < l.length := by rw [bs_size] at h; exact h
  rw [List.getD_eq_getElem?_getD, List.getElem?_eq_getElem hl]
  rfl

set_option maxRecDepth 100000 in
set_option maxHeartbeats 4000000 in
theorem bare_3 {N : Nat} (ih : ∀ N', N' < N → BareC N') (ln : Int) (s : ByteArray) (k n : Int) (t : ByteArray) (v : VL) (va : Option Addr) (vc : Nat) (sub : NL) (sa : Option Addr) (sc : Nat) (ea : Nat → Addr) (w : World) (hN : sub.tot < N) (hsh : ShAt w ea) (hnd : NdIn w 3 ln s k n t v va vc sub sa sc) (hm : sub.len = 1) :
    Calls Tryd.prog 13 #[.agg #[.int .i64 3, .int .i64 ln, .string s, .int .i64 k, .int .i64 n, .string t, .slice va v.len vc, .slice sa sub.len sc]] w (SayT w (nodeT 3 s k n t v (ntx sub)).b) := by
  rw [hm]
  obtain ⟨wa, hwa⟩ : ∃ wa, wa = w.alloc (.cells #[.int .i64 3, .int .i64 ln, .string s, .int .i64 k, .int .i64 n, .string t, .slice va v.len vc, .slice sa 1 sc] 29) := ⟨_, rfl⟩
  have hb : Below w.heap.size w wa := by rw [hwa]; exact (Below.refl _ _).alloc (Nat.le_refl _) _
  have hN1 : NdB wa w.heap.size (.int .i64 3) (.int .i64 ln) (.string s) (.int .i64 k) (.int .i64 n) (.string t) (.slice va v.len vc) (.slice sa 1 sc) := by rw [hwa]; exact NdB.new _ _ _ _ _ _ _ _ _
  have v0 := hN1.c0; have v7 := hN1.c7
  rw [hwa] at v0 v7
  obtain ⟨b, o, hA⟩ := sa_of hnd (by omega)
  obtain ⟨k0a0, k0a1, k0a2, k0a3, k0a4, k0a5, k0a6, k0a7, hbl0, K0⟩ := kid_of ih hN (hsh.below hb) (hnd.below hb) 0 (by omega) hA
  obtain ⟨x0, hx0⟩ : ∃ x, x = (ntx sub).getD 0 default := ⟨_, rfl⟩
  rw [← hx0] at K0
  rw [show o + 0 * 8 = o from by omega] at K0
  have hne : x0.b ≠ [] := by
    refine ex_ne sub hnd.ex.2.2.2.2.2.1 x0 ?_
    have hl : 0 < (ntx sub).length := by rw [ntx_len]; omega
    rw [hx0, List.getD_eq_getElem?_getD, List.getElem?_eq_getElem hl]
    exact List.getElem_mem hl
  have hne2 : inT x0 ≠ [] := by unfold inT; split <;> simp [brk, hne]
  have hpos : 0 < (bs (inT x0)).size := by rw [bs_size]; exact List.length_pos_iff.2 hne2
  have hHD := Lib.hid (bs_head hpos)
  have HT0 := Lib.hid (show (nodeT 3 s k n t v (ntx sub)).b = (if 48 ≤ (inT x0).getD 0 0 ∧ (inT x0).getD 0 0 ≤ 57 then 45 :: brk (inT x0) else 45 :: inT x0) by rw [hx0]; rfl)
  rw [show SayT w (nodeT 3 s k n t v (ntx sub)).b = fun e w' => e = .returned (.string (bs (nodeT 3 s k n t v (ntx sub)).b)) ∧ Below w.heap.size w w' from rfl, HT0.out]
  obtain ⟨c00, c01, c02, c03, c04, c05, c06, c07, ⟨z0a, z0b, z0c, z0d⟩, BC0, IC0, NC0, CC0⟩ := K0
  rw [← bs_size] at z0d
  have C0 := Lib.hid (IC0 wa (Below.refl _ _))
  have HB := Lib.hid hb
  have HWA := Lib.hid hwa
  subst hA
  have d0 := c00; have d1 := c01; have d2 := c02; have d3 := c03; have d4 := c04; have d5 := c05; have d6 := c06; have d7 := c07
  rw [hwa] at d0 d1 d2 d3 d4 d5 d6 d7
  have hcase : ((48 ≤ (inT x0).getD 0 0 ∧ (inT x0).getD 0 0 ≤ 57) ∧ (48 : Int) ≤ ((bs (inT x0))[0].toNat : Int) ∧ ((bs (inT x0))[0].toNat : Int) ≤ 57) ∨ (¬ (48 ≤ (inT x0).getD 0 0 ∧ (inT x0).getD 0 0 ≤ 57) ∧ ¬ ((48 : Int) ≤ ((bs (inT x0))[0].toNat : Int))) ∨ (¬ (48 ≤ (inT x0).getD 0 0 ∧ (inT x0).getD 0 0 ≤ 57) ∧ (48 : Int) ≤ ((bs (inT x0))[0].toNat : Int) ∧ ¬ (((bs (inT x0))[0].toNat : Int) ≤ 57)) := by
    rw [hHD.out]
    simp only [UInt8.le_iff_toNat_le]
    have e1 : (48 : UInt8).toNat = 48 := rfl
    have e2 : (57 : UInt8).toNat = 57 := rfl
    rw [e1, e2]
    omega
  clear hb hN1 hwa hsh hnd hN ih HT0 BC0 IC0 NC0 CC0 hx0 hm hne hne2 z0a z0b z0c hHD
  rcases hcase with ⟨hc, g1, g2⟩ | ⟨hc, g1⟩ | ⟨hc, g1, g2⟩
  · have HT := Lib.hid (show bs (if 48 ≤ (inT x0).getD 0 0 ∧ (inT x0).getD 0 0 ≤ 57 then 45 :: brk (inT x0) else 45 :: inT x0) = ⟨#[45, 40]⟩ ++ bs (inT x0) ++ ⟨#[41]⟩ by rw [if_pos hc]; unfold brk; apply ByteArray.ext; simp [bs])
    rw [HT.out]
    clear hc
    go_enter Tryd.func13, Tryd.ntmps13
    go_wp2_with fail
    rw [← HWA.out]
    refine C0.out.mono ?_
    rintro e w10 ⟨rfl, hb10⟩
    have HB10 := Lib.hid (HB.out.trans (below_le' hb10 HB.out.size))
    clear hb10
    go_wp2_with fail
    go_ret
    exact ⟨rfl, HB10.out⟩
  all_goals
    have HT := Lib.hid (show bs (if 48 ≤ (inT x0).getD 0 0 ∧ (inT x0).getD 0 0 ≤ 57 then 45 :: brk (inT x0) else 45 :: inT x0) = ⟨#[45]⟩ ++ bs (inT x0) by rw [if_neg hc]; apply ByteArray.ext; simp [bs])
    rw [HT.out]
    clear hc
    go_enter Tryd.func13, Tryd.ntmps13
    go_wp2_with fail
    rw [← HWA.out]
    refine C0.out.mono ?_
    rintro e w10 ⟨rfl, hb10⟩
    have HB10 := Lib.hid (HB.out.trans (below_le' hb10 HB.out.size))
    clear hb10
    go_wp2_with fail
    go_ret
    exact ⟨rfl, HB10.out⟩
end Go.Proofs.YtocolgmfcjfjpaaDoor
namespace Go.Proofs.YtocolgmfcjfjpaaDoor
open Go.RowKit Go.Lib
set_option linter.unusedVariables false
theorem ex_take {i : Nat} {l : NL} (h : ExN l) : ExN (l.take i) := by
  induction l generalizing i with
  | nil => cases i <;> exact trivial
  | cons op ln s k n t v sub r _ ih =>
    cases i with
    | zero => exact trivial
    | succ i =>
      obtain ⟨a1, a2, a3, a4, a5, a6, a7⟩ := h
      exact ⟨a1, a2, a3, a4, a5, a6, ih a7⟩
theorem tot_take (i : Nat) (l : NL) : (l.take i).tot ≤ l.tot := by
  induction l generalizing i with
  | nil => cases i <;> exact Nat.le_refl _
  | cons op ln s k n t v sub r _ ih =>
    cases i with
    | zero => exact Nat.zero_le _
    | succ i => have := ih i; simp only [NL.take, NL.tot]; omega
theorem len_take (i : Nat) (l : NL) (h : i ≤ l.len) : (l.take i).len = i := by
  have h2 : (l.take i).len + (l.drop i).len = l.len := by rw [← NL.len_app, NL.take_app_drop]
  rw [NL.len_drop] at h2; omega
theorem rp_take {w : World} {S : Nat → Prop} (i : Nat) (l : NL) (A : Option Addr) (h : RpN w S l A) : RpN w S (l.take i) A := by
  induction l generalizing i A with
  | nil => cases i <;> exact trivial
  | cons op ln s k n t v sub r _ ih =>
    cases i with
    | zero => exact trivial
    | succ i =>
      obtain ⟨b, o, va, vc, sa, sc, a0, a1, a2, a3, a4, a5, a6, a7, a8, a9, a10, a11, a12, a13, a14⟩ := h
      exact ⟨b, o, va, vc, sa, sc, a0, a1, a2, a3, a4, a5, a6, a7, a8, a9, a10, a11, a12, a13, ih i _ a14⟩
theorem ntx_take (i : Nat) (l : NL) : ntx (l.take i) = (ntx l).take i := by
  induction l generalizing i with
  | nil => cases i <;> rfl
  | cons op ln s k n t v sub r _ ih =>
    cases i with
    | zero => rfl
    | succ i => rw [NL.take, ntx, ih i]; rfl
theorem rp_drop2 {w : World} {S : Nat → Prop} (i : Nat) (l : NL) {b o : Nat} (h : RpN w S l (some ⟨b, o, none⟩)) : RpN w S (l.drop i) (some ⟨b, o + 8 * i, none⟩) := RpN.drop i l b o h

set_option maxRecDepth 100000 in
set_option maxHeartbeats 4000000 in
theorem bare_23a {N : Nat} (ih : ∀ N', N' < N → BareC N') (ln : Int) (s : ByteArray) (k n : Int) (t : ByteArray) (v : VL) (va : Option Addr) (vc : Nat) (sub : NL) (sa : Option Addr) (sc : Nat) (ea : Nat → Addr) (w : World) (hN : sub.tot < N) (hsh : ShAt w ea) (hnd : NdIn w 23 ln s k n t v va vc sub sa sc) (hm2 : 2 ≤ sub.len) (hs2 : sc = 2) :
    Calls Tryd.prog 13 #[.agg #[.int .i64 23, .int .i64 ln, .string s, .int .i64 k, .int .i64 n, .string t, .slice va v.len vc, .slice sa sub.len sc]] w (SayT w (nodeT 23 s k n t v (ntx sub)).b) := by
  obtain ⟨m, hm0⟩ : ∃ m, m = sub.len := ⟨_, rfl⟩
  rw [← hm0]
  obtain ⟨wa, hwa⟩ : ∃ wa, wa = w.alloc (.cells #[.int .i64 23, .int .i64 ln, .string s, .int .i64 k, .int .i64 n, .string t, .slice va v.len vc, .slice sa m sc] 29) := ⟨_, rfl⟩
  have hb : Below w.heap.size w wa := by rw [hwa]; exact (Below.refl _ _).alloc (Nat.le_refl _) _
  have hN1 : NdB wa w.heap.size (.int .i64 23) (.int .i64 ln) (.string s) (.int .i64 k) (.int .i64 n) (.string t) (.slice va v.len vc) (.slice sa m sc) := by rw [hwa]; exact NdB.new _ _ _ _ _ _ _ _ _
  have v0 := hN1.c0; have v2 := hN1.c2; have v7 := hN1.c7
  have u2 := v2
  have hwz : w.heap.size < wa.heap.size := by rw [hwa]; simp
  rw [hwa] at v0 v2 v7
  have hmc : m ≤ sc := by rw [hm0]; exact hnd.hsc
  have hex := hnd.ex.2.2.2.2.2.1
  have hnda := hnd.below hb
  have hsha := hsh.below hb
  have hlt := NL.len_tot sub
  have h4 := hnd.tot
  obtain ⟨b, o, hA⟩ := sa_of hnd (by omega)
  obtain ⟨k0a0, k0a1, k0a2, k0a3, k0a4, k0a5, k0a6, k0a7, hbl0, K0⟩ := kid_of ih hN hsha hnda 0 (by omega) hA
  obtain ⟨k1a0, k1a1, k1a2, k1a3, k1a4, k1a5, k1a6, k1a7, hbl1, K1⟩ := kid_of ih hN hsha hnda 1 (by omega) hA
  obtain ⟨x0, hx0⟩ : ∃ x, x = (ntx sub).getD 0 default := ⟨_, rfl⟩
  rw [← hx0] at K0
  rw [show o + 0 * 8 = o from by omega] at K0
  obtain ⟨x1, hx1⟩ : ∃ x, x = (ntx sub).getD 1 default := ⟨_, rfl⟩
  rw [← hx1] at K1
  rw [show o + 1 * 8 = o + 8 from by omega] at K1
  have hl0 : sub.drop 2 = .nil := by have h := NL.len_drop 2 sub; cases hq : sub.drop 2 with | nil => rfl | cons => rw [hq] at h; simp only [NL.len] at h; omega
  have RW := fun W (hW : Below wa.heap.size wa W) => row_of (ih sub.tot hN) (sub.drop 2) (some ⟨b, o, none⟩) (sc - 2) ea W (NL.tot_drop 2 sub) (Nat.le_trans (NL.tot_drop 2 sub) h4) (hsha.below hW) (ExN.drop 2 sub hex) (by rw [NL.len_drop]; omega) (by rw [hl0]; trivial)
  rw [NL.len_drop, ← hm0] at RW
  rw [show m - 2 = 0 by omega, show sc - 2 = 0 by omega] at RW
  have hrl := ex_row_len (ExN.drop 2 sub hex) (Nat.le_trans (NL.tot_drop 2 sub) h4)
  rw [← ntx_drop] at hrl RW
  obtain ⟨rt, hrt⟩ : ∃ rt, rt = rowT ((ntx sub).drop 2) := ⟨_, rfl⟩
  rw [← hrt] at hrl RW
  rw [← bs_size] at hrl
  have HT := Lib.hid (show bs (nodeT 23 s k n t v (ntx sub)).b = bs (inT x0) ++ ⟨#[58]⟩ ++ bs x1.nm ++ ⟨#[40]⟩ ++ bs rt ++ ⟨#[41]⟩ by
    have e : (nodeT 23 s k n t v (ntx sub)).b = inT x0 ++ [58] ++ x1.nm ++ [40] ++ rt ++ [41] := by rw [hx0, hx1, hrt]; rfl
    rw [e]; apply ByteArray.ext; simp [bs])
  rw [show SayT w (nodeT 23 s k n t v (ntx sub)).b = fun e w' => e = .returned (.string (bs (nodeT 23 s k n t v (ntx sub)).b)) ∧ Below w.heap.size w w' from rfl, HT.out]
  obtain ⟨c00, c01, c02, c03, c04, c05, c06, c07, ⟨z0a, z0b, z0c, z0d⟩, BC0, IC0, NC0, CC0⟩ := K0
  obtain ⟨c10, c11, c12, c13, c14, c15, c16, c17, ⟨z1a, z1b, z1c, z1d⟩, BC1, IC1, NC1, CC1⟩ := K1
  rw [← bs_size] at z0d z1b
  have s1 : ¬ (9223372036854775807 < (bs (inT x0)).size + 1) := by omega
  have s2 : ¬ (9223372036854775807 < (bs (inT x0)).size + 1 + (bs x1.nm).size) := by omega
  have s3 : ¬ (9223372036854775807 < (bs (inT x0)).size + 1 + (bs x1.nm).size + 1) := by omega
  have s4 : ¬ (9223372036854775807 < (bs (inT x0)).size + 1 + (bs x1.nm).size + 1 + (bs rt).size) := by omega
  have s5 : ¬ (9223372036854775807 < (bs (inT x0)).size + 1 + (bs x1.nm).size + 1 + (bs rt).size + 1) := by omega
  obtain ⟨S, hS⟩ : ∃ S : World → Prop, S = fun W => W.cell? ⟨b, o, none⟩ = some k0a0 ∧ W.cell? ⟨b, o + 1, none⟩ = some k0a1 ∧ W.cell? ⟨b, o + 2, none⟩ = some k0a2 ∧ W.cell? ⟨b, o + 3, none⟩ = some k0a3 ∧ W.cell? ⟨b, o + 4, none⟩ = some k0a4 ∧ W.cell? ⟨b, o + 5, none⟩ = some k0a5 ∧ W.cell? ⟨b, o + 6, none⟩ = some k0a6 ∧ W.cell? ⟨b, o + 7, none⟩ = some k0a7 ∧ W.cell? ⟨b, o + 8, none⟩ = some k1a0 ∧ W.cell? ⟨b, o + 8 + 1, none⟩ = some k1a1 ∧ W.cell? ⟨b, o + 8 + 2, none⟩ = some k1a2 ∧ W.cell? ⟨b, o + 8 + 3, none⟩ = some k1a3 ∧ W.cell? ⟨b, o + 8 + 4, none⟩ = some k1a4 ∧ W.cell? ⟨b, o + 8 + 5, none⟩ = some k1a5 ∧ W.cell? ⟨b, o + 8 + 6, none⟩ = some k1a6 ∧ W.cell? ⟨b, o + 8 + 7, none⟩ = some k1a7 ∧ Below wa.heap.size wa W := ⟨_, rfl⟩
  have KS : ∀ W, Below wa.heap.size wa W → S W := fun W h => by rw [hS]; exact ⟨cellB h c00 hbl0, cellB h c01 hbl0, cellB h c02 hbl0, cellB h c03 hbl0, cellB h c04 hbl0, cellB h c05 hbl0, cellB h c06 hbl0, cellB h c07 hbl0, cellB h c10 hbl1, cellB h c11 hbl1, cellB h c12 hbl1, cellB h c13 hbl1, cellB h c14 hbl1, cellB h c15 hbl1, cellB h c16 hbl1, cellB h c17 hbl1, h⟩
  have BS : ∀ W, S W → Below wa.heap.size wa W := fun W h => by rw [hS] at h; exact h.2.2.2.2.2.2.2.2.2.2.2.2.2.2.2.2
  have C0 := Lib.hid (fun W (h : S W) => (IC0 W (BS W h)).mono (R' := fun e W' => e = .returned (.string (bs (inT x0))) ∧ S W') fun e W' ⟨h1, h2⟩ => ⟨h1, KS _ ((BS W h).trans (below_le' h2 (BS W h).size))⟩)
  have C1 := Lib.hid (fun W (h : S W) => (NC1 W (BS W h)).mono (R' := fun e W' => e = .returned (.string (bs x1.nm)) ∧ S W') fun e W' ⟨h1, h2⟩ => ⟨h1, KS _ ((BS W h).trans (below_le' h2 (BS W h).size))⟩)
  have C2 := Lib.hid (fun W (h : S W) => (RW W (BS W h)).mono (R' := fun e W' => e = .returned (.string (bs rt)) ∧ S W') fun e W' ⟨h1, h2⟩ => ⟨h1, KS _ ((BS W h).trans (below_le' h2 (BS W h).size))⟩)
  have K0 : S wa.drew := KS _ ((Below.refl _ _).drew)
  have KA : S wa := KS _ (Below.refl _ _)
  have BSS := Lib.hid BS
  have HB := Lib.hid hb
  have HWA := Lib.hid hwa
  have i1 : 1 < m := by omega
  have i0 : 0 < m := by omega
  have i2 : 2 ≤ m := by omega
  have j1 : (1 : Int) < (m : Int) := by omega
  have j2 : (2 : Int) ≤ (m : Int) := by omega
  subst hA
  subst hs2
  clear KS BS hb hN1 hwa hsh hnd hN ih HT BC0 IC0 NC0 CC0 BC1 IC1 NC1 CC1 hx0 hx1 u2 RW hnda hsha hex hrt hlt h4 hm2 hm0 hl0
  subst hS
  go_enter Tryd.func13, Tryd.ntmps13
  go_wp2_with fail
  rw [← HWA.out]
  go_region_held3 (fun W => W.cell? ⟨b, o, none⟩ = some k0a0 ∧ W.cell? ⟨b, o + 1, none⟩ = some k0a1 ∧ W.cell? ⟨b, o + 2, none⟩ = some k0a2 ∧ W.cell? ⟨b, o + 3, none⟩ = some k0a3 ∧ W.cell? ⟨b, o + 4, none⟩ = some k0a4 ∧ W.cell? ⟨b, o + 5, none⟩ = some k0a5 ∧ W.cell? ⟨b, o + 6, none⟩ = some k0a6 ∧ W.cell? ⟨b, o + 7, none⟩ = some k0a7 ∧ W.cell? ⟨b, o + 8, none⟩ = some k1a0 ∧ W.cell? ⟨b, o + 8 + 1, none⟩ = some k1a1 ∧ W.cell? ⟨b, o + 8 + 2, none⟩ = some k1a2 ∧ W.cell? ⟨b, o + 8 + 3, none⟩ = some k1a3 ∧ W.cell? ⟨b, o + 8 + 4, none⟩ = some k1a4 ∧ W.cell? ⟨b, o + 8 + 5, none⟩ = some k1a5 ∧ W.cell? ⟨b, o + 8 + 6, none⟩ = some k1a6 ∧ W.cell? ⟨b, o + 8 + 7, none⟩ = some k1a7 ∧ Below wa.heap.size wa W)
    (first | (with_reducible assumption) | (with_reducible exact K0) | (with_reducible exact KA))
    (first
      | (go_at_call 18; with_reducible refine (C0.out _ ?_).mono ?_; (with_reducible assumption); rintro e w10 ⟨rfl, hs10⟩)
      | (go_at_call 19; with_reducible refine (C1.out _ ?_).mono ?_; (with_reducible assumption); rintro e w11 ⟨rfl, hs11⟩)
      | (go_at_call 20; with_reducible refine (C2.out _ ?_).mono ?_; (with_reducible assumption); rintro e w12 ⟨rfl, hs12⟩))
  all_goals
    go_wp2_with fail
    go_ret
    exact ⟨rfl, HB.out.trans (below_le' (BSS.out _ (by with_reducible assumption)) HB.out.size)⟩

set_option maxRecDepth 100000 in
set_option maxHeartbeats 4000000 in
theorem bare_23b {N : Nat} (ih : ∀ N', N' < N → BareC N') (ln : Int) (s : ByteArray) (k n : Int) (t : ByteArray) (v : VL) (va : Option Addr) (vc : Nat) (sub : NL) (sa : Option Addr) (sc : Nat) (ea : Nat → Addr) (w : World) (hN : sub.tot < N) (hsh : ShAt w ea) (hnd : NdIn w 23 ln s k n t v va vc sub sa sc) (hm2 : 2 ≤ sub.len) (hs2 : sc ≠ 2) :
    Calls Tryd.prog 13 #[.agg #[.int .i64 23, .int .i64 ln, .string s, .int .i64 k, .int .i64 n, .string t, .slice va v.len vc, .slice sa sub.len sc]] w (SayT w (nodeT 23 s k n t v (ntx sub)).b) := by
  obtain ⟨m, hm0⟩ : ∃ m, m = sub.len := ⟨_, rfl⟩
  rw [← hm0]
  obtain ⟨wa, hwa⟩ : ∃ wa, wa = w.alloc (.cells #[.int .i64 23, .int .i64 ln, .string s, .int .i64 k, .int .i64 n, .string t, .slice va v.len vc, .slice sa m sc] 29) := ⟨_, rfl⟩
  have hb : Below w.heap.size w wa := by rw [hwa]; exact (Below.refl _ _).alloc (Nat.le_refl _) _
  have hN1 : NdB wa w.heap.size (.int .i64 23) (.int .i64 ln) (.string s) (.int .i64 k) (.int .i64 n) (.string t) (.slice va v.len vc) (.slice sa m sc) := by rw [hwa]; exact NdB.new _ _ _ _ _ _ _ _ _
  have v0 := hN1.c0; have v2 := hN1.c2; have v7 := hN1.c7
  have u2 := v2
  have hwz : w.heap.size < wa.heap.size := by rw [hwa]; simp
  rw [hwa] at v0 v2 v7
  have hmc : m ≤ sc := by rw [hm0]; exact hnd.hsc
  have hex := hnd.ex.2.2.2.2.2.1
  have hnda := hnd.below hb
  have hsha := hsh.below hb
  have hlt := NL.len_tot sub
  have h4 := hnd.tot
  obtain ⟨b, o, hA⟩ := sa_of hnd (by omega)
  obtain ⟨k0a0, k0a1, k0a2, k0a3, k0a4, k0a5, k0a6, k0a7, hbl0, K0⟩ := kid_of ih hN hsha hnda 0 (by omega) hA
  obtain ⟨k1a0, k1a1, k1a2, k1a3, k1a4, k1a5, k1a6, k1a7, hbl1, K1⟩ := kid_of ih hN hsha hnda 1 (by omega) hA
  obtain ⟨x0, hx0⟩ : ∃ x, x = (ntx sub).getD 0 default := ⟨_, rfl⟩
  rw [← hx0] at K0
  rw [show o + 0 * 8 = o from by omega] at K0
  obtain ⟨x1, hx1⟩ : ∃ x, x = (ntx sub).getD 1 default := ⟨_, rfl⟩
  rw [← hx1] at K1
  rw [show o + 1 * 8 = o + 8 from by omega] at K1
  have hrd := rp_drop2 2 sub (by have h := hnda.hsub; rw [hA] at h; exact h)
  rw [show o + 8 * 2 = o + 16 from rfl] at hrd
  have RW := fun W (hW : Below wa.heap.size wa W) => row_of (ih sub.tot hN) (sub.drop 2) (some ⟨b, o + 16, none⟩) (sc - 2) ea W (NL.tot_drop 2 sub) (Nat.le_trans (NL.tot_drop 2 sub) h4) (hsha.below hW) (ExN.drop 2 sub hex) (by rw [NL.len_drop]; omega) (hrd.keep (fun b hb => hW.block b hb) (fun b hb => Nat.lt_of_lt_of_le hb hW.size))
  rw [NL.len_drop, ← hm0] at RW
  have hrl := ex_row_len (ExN.drop 2 sub hex) (Nat.le_trans (NL.tot_drop 2 sub) h4)
  rw [← ntx_drop] at hrl RW
  obtain ⟨rt, hrt⟩ : ∃ rt, rt = rowT ((ntx sub).drop 2) := ⟨_, rfl⟩
  rw [← hrt] at hrl RW
  rw [← bs_size] at hrl
  have HT := Lib.hid (show bs (nodeT 23 s k n t v (ntx sub)).b = bs (inT x0) ++ ⟨#[58]⟩ ++ bs x1.nm ++ ⟨#[40]⟩ ++ bs rt ++ ⟨#[41]⟩ by
    have e : (nodeT 23 s k n t v (ntx sub)).b = inT x0 ++ [58] ++ x1.nm ++ [40] ++ rt ++ [41] := by rw [hx0, hx1, hrt]; rfl
    rw [e]; apply ByteArray.ext; simp [bs])
  rw [show SayT w (nodeT 23 s k n t v (ntx sub)).b = fun e w' => e = .returned (.string (bs (nodeT 23 s k n t v (ntx sub)).b)) ∧ Below w.heap.size w w' from rfl, HT.out]
  obtain ⟨c00, c01, c02, c03, c04, c05, c06, c07, ⟨z0a, z0b, z0c, z0d⟩, BC0, IC0, NC0, CC0⟩ := K0
  obtain ⟨c10, c11, c12, c13, c14, c15, c16, c17, ⟨z1a, z1b, z1c, z1d⟩, BC1, IC1, NC1, CC1⟩ := K1
  rw [← bs_size] at z0d z1b
  have s1 : ¬ (9223372036854775807 < (bs (inT x0)).size + 1) := by omega
  have s2 : ¬ (9223372036854775807 < (bs (inT x0)).size + 1 + (bs x1.nm).size) := by omega
  have s3 : ¬ (9223372036854775807 < (bs (inT x0)).size + 1 + (bs x1.nm).size + 1) := by omega
  have s4 : ¬ (9223372036854775807 < (bs (inT x0)).size + 1 + (bs x1.nm).size + 1 + (bs rt).size) := by omega
  have s5 : ¬ (9223372036854775807 < (bs (inT x0)).size + 1 + (bs x1.nm).size + 1 + (bs rt).size + 1) := by omega
  obtain ⟨S, hS⟩ : ∃ S : World → Prop, S = fun W => W.cell? ⟨b, o, none⟩ = some k0a0 ∧ W.cell? ⟨b, o + 1, none⟩ = some k0a1 ∧ W.cell? ⟨b, o + 2, none⟩ = some k0a2 ∧ W.cell? ⟨b, o + 3, none⟩ = some k0a3 ∧ W.cell? ⟨b, o + 4, none⟩ = some k0a4 ∧ W.cell? ⟨b, o + 5, none⟩ = some k0a5 ∧ W.cell? ⟨b, o + 6, none⟩ = some k0a6 ∧ W.cell? ⟨b, o + 7, none⟩ = some k0a7 ∧ W.cell? ⟨b, o + 8, none⟩ = some k1a0 ∧ W.cell? ⟨b, o + 8 + 1, none⟩ = some k1a1 ∧ W.cell? ⟨b, o + 8 + 2, none⟩ = some k1a2 ∧ W.cell? ⟨b, o + 8 + 3, none⟩ = some k1a3 ∧ W.cell? ⟨b, o + 8 + 4, none⟩ = some k1a4 ∧ W.cell? ⟨b, o + 8 + 5, none⟩ = some k1a5 ∧ W.cell? ⟨b, o + 8 + 6, none⟩ = some k1a6 ∧ W.cell? ⟨b, o + 8 + 7, none⟩ = some k1a7 ∧ Below wa.heap.size wa W := ⟨_, rfl⟩
  have KS : ∀ W, Below wa.heap.size wa W → S W := fun W h => by rw [hS]; exact ⟨cellB h c00 hbl0, cellB h c01 hbl0, cellB h c02 hbl0, cellB h c03 hbl0, cellB h c04 hbl0, cellB h c05 hbl0, cellB h c06 hbl0, cellB h c07 hbl0, cellB h c10 hbl1, cellB h c11 hbl1, cellB h c12 hbl1, cellB h c13 hbl1, cellB h c14 hbl1, cellB h c15 hbl1, cellB h c16 hbl1, cellB h c17 hbl1, h⟩
  have BS : ∀ W, S W → Below wa.heap.size wa W := fun W h => by rw [hS] at h; exact h.2.2.2.2.2.2.2.2.2.2.2.2.2.2.2.2
  have C0 := Lib.hid (fun W (h : S W) => (IC0 W (BS W h)).mono (R' := fun e W' => e = .returned (.string (bs (inT x0))) ∧ S W') fun e W' ⟨h1, h2⟩ => ⟨h1, KS _ ((BS W h).trans (below_le' h2 (BS W h).size))⟩)
  have C1 := Lib.hid (fun W (h : S W) => (NC1 W (BS W h)).mono (R' := fun e W' => e = .returned (.string (bs x1.nm)) ∧ S W') fun e W' ⟨h1, h2⟩ => ⟨h1, KS _ ((BS W h).trans (below_le' h2 (BS W h).size))⟩)
  have C2 := Lib.hid (fun W (h : S W) => (RW W (BS W h)).mono (R' := fun e W' => e = .returned (.string (bs rt)) ∧ S W') fun e W' ⟨h1, h2⟩ => ⟨h1, KS _ ((BS W h).trans (below_le' h2 (BS W h).size))⟩)
  have K0 : S wa.drew := KS _ ((Below.refl _ _).drew)
  have KA : S wa := KS _ (Below.refl _ _)
  have BSS := Lib.hid BS
  have HB := Lib.hid hb
  have HWA := Lib.hid hwa
  have i1 : 1 < m := by omega
  have i0 : 0 < m := by omega
  have i2 : 2 ≤ m := by omega
  have j1 : (1 : Int) < (m : Int) := by omega
  have j2 : (2 : Int) ≤ (m : Int) := by omega
  subst hA
  clear KS BS hb hN1 hwa hsh hnd hN ih HT BC0 IC0 NC0 CC0 BC1 IC1 NC1 CC1 hx0 hx1 u2 RW hnda hsha hex hrt hlt h4 hm2 hm0 hrd
  subst hS
  go_enter Tryd.func13, Tryd.ntmps13
  go_wp2_with fail
  rw [← HWA.out]
  go_region_held3 (fun W => W.cell? ⟨b, o, none⟩ = some k0a0 ∧ W.cell? ⟨b, o + 1, none⟩ = some k0a1 ∧ W.cell? ⟨b, o + 2, none⟩ = some k0a2 ∧ W.cell? ⟨b, o + 3, none⟩ = some k0a3 ∧ W.cell? ⟨b, o + 4, none⟩ = some k0a4 ∧ W.cell? ⟨b, o + 5, none⟩ = some k0a5 ∧ W.cell? ⟨b, o + 6, none⟩ = some k0a6 ∧ W.cell? ⟨b, o + 7, none⟩ = some k0a7 ∧ W.cell? ⟨b, o + 8, none⟩ = some k1a0 ∧ W.cell? ⟨b, o + 8 + 1, none⟩ = some k1a1 ∧ W.cell? ⟨b, o + 8 + 2, none⟩ = some k1a2 ∧ W.cell? ⟨b, o + 8 + 3, none⟩ = some k1a3 ∧ W.cell? ⟨b, o + 8 + 4, none⟩ = some k1a4 ∧ W.cell? ⟨b, o + 8 + 5, none⟩ = some k1a5 ∧ W.cell? ⟨b, o + 8 + 6, none⟩ = some k1a6 ∧ W.cell? ⟨b, o + 8 + 7, none⟩ = some k1a7 ∧ Below wa.heap.size wa W)
    (first | (with_reducible assumption) | (with_reducible exact K0) | (with_reducible exact KA))
    (first
      | (go_at_call 18; with_reducible refine (C0.out _ ?_).mono ?_; (with_reducible assumption); rintro e w10 ⟨rfl, hs10⟩)
      | (go_at_call 19; with_reducible refine (C1.out _ ?_).mono ?_; (with_reducible assumption); rintro e w11 ⟨rfl, hs11⟩)
      | (go_at_call 20; with_reducible refine (C2.out _ ?_).mono ?_; (with_reducible assumption); rintro e w12 ⟨rfl, hs12⟩))
  all_goals
    go_wp2_with fail
    go_ret
    exact ⟨rfl, HB.out.trans (below_le' (BSS.out _ (by with_reducible assumption)) HB.out.size)⟩

theorem bare_23 {N : Nat} (ih : ∀ N', N' < N → BareC N') (ln : Int) (s : ByteArray) (k n : Int) (t : ByteArray) (v : VL) (va : Option Addr) (vc : Nat) (sub : NL) (sa : Option Addr) (sc : Nat) (ea : Nat → Addr) (w : World) (hN : sub.tot < N) (hsh : ShAt w ea) (hnd : NdIn w 23 ln s k n t v va vc sub sa sc) (hm2 : 2 ≤ sub.len) :
    Calls Tryd.prog 13 #[.agg #[.int .i64 23, .int .i64 ln, .string s, .int .i64 k, .int .i64 n, .string t, .slice va v.len vc, .slice sa sub.len sc]] w (SayT w (nodeT 23 s k n t v (ntx sub)).b) := by
  by_cases h : sc = 2
  · exact bare_23a ih ln s k n t v va vc sub sa sc ea w hN hsh hnd hm2 h
  · exact bare_23b ih ln s k n t v va vc sub sa sc ea w hN hsh hnd hm2 h

set_option maxRecDepth 100000 in
set_option maxHeartbeats 4000000 in
theorem bare_24 {N : Nat} (ih : ∀ N', N' < N → BareC N') (ln : Int) (s : ByteArray) (k n : Int) (t : ByteArray) (v : VL) (va : Option Addr) (vc : Nat) (sub : NL) (sa : Option Addr) (sc : Nat) (ea : Nat → Addr) (w : World) (hN : sub.tot < N) (hsh : ShAt w ea) (hnd : NdIn w 24 ln s k n t v va vc sub sa sc) :
    Calls Tryd.prog 13 #[.agg #[.int .i64 24, .int .i64 ln, .string s, .int .i64 k, .int .i64 n, .string t, .slice va v.len vc, .slice sa sub.len sc]] w (SayT w (nodeT 24 s k n t v (ntx sub)).b) := by
  obtain ⟨m, hm0⟩ : ∃ m, m = sub.len := ⟨_, rfl⟩
  rw [← hm0]
  obtain ⟨wa, hwa⟩ : ∃ wa, wa = w.alloc (.cells #[.int .i64 24, .int .i64 ln, .string s, .int .i64 k, .int .i64 n, .string t, .slice va v.len vc, .slice sa m sc] 29) := ⟨_, rfl⟩
  have hb : Below w.heap.size w wa := by rw [hwa]; exact (Below.refl _ _).alloc (Nat.le_refl _) _
  have hN1 : NdB wa w.heap.size (.int .i64 24) (.int .i64 ln) (.string s) (.int .i64 k) (.int .i64 n) (.string t) (.slice va v.len vc) (.slice sa m sc) := by rw [hwa]; exact NdB.new _ _ _ _ _ _ _ _ _
  have v0 := hN1.c0; have v2 := hN1.c2; have v7 := hN1.c7
  have u2 := v2
  have hwz : w.heap.size < wa.heap.size := by rw [hwa]; simp
  rw [hwa] at v0 v2 v7
  have hmc : m ≤ sc := by rw [hm0]; exact hnd.hsc
  have hex := hnd.ex.2.2.2.2.2.1
  have hnda := hnd.below hb
  have hsha := hsh.below hb
  have hlt := NL.len_tot sub
  have h4 := hnd.tot
  have RW := fun W (hW : Below wa.heap.size wa W) => row_of (ih sub.tot hN) sub sa sc ea W (Nat.le_refl _) h4 (hsha.below hW) hex hnd.hsc (hnda.below hW).hsub
  rw [← hm0] at RW
  have hrl := ex_row_len hex h4
  rw [← bs_size] at hrl
  have hss := hnd.ex.2.2.2.2.1
  obtain ⟨rt, hrt⟩ : ∃ rt, rt = rowT (ntx sub) := ⟨_, rfl⟩
  rw [← hrt] at hrl RW
  have HT := Lib.hid (show bs (nodeT 24 s k n t v (ntx sub)).b = s ++ ⟨#[40]⟩ ++ bs rt ++ ⟨#[41]⟩ by
    have e : (nodeT 24 s k n t v (ntx sub)).b = s.data.toList ++ [40] ++ rt ++ [41] := by rw [hrt]; rfl
    rw [e]; apply ByteArray.ext; simp [bs])
  rw [show SayT w (nodeT 24 s k n t v (ntx sub)).b = fun e w' => e = .returned (.string (bs (nodeT 24 s k n t v (ntx sub)).b)) ∧ Below w.heap.size w w' from rfl, HT.out]
  have s1 : ¬ (9223372036854775807 < s.size + 1) := by omega
  have s2 : ¬ (9223372036854775807 < s.size + 1 + (bs rt).size) := by omega
  have s3 : ¬ (9223372036854775807 < s.size + 1 + (bs rt).size + 1) := by omega
  obtain ⟨S, hS⟩ : ∃ S : World → Prop, S = fun W => W.cell? ⟨w.heap.size, 2, none⟩ = some (.string s) ∧ Below wa.heap.size wa W := ⟨_, rfl⟩
  have KS : ∀ W, Below wa.heap.size wa W → S W := fun W h => by rw [hS]; exact ⟨cellB h u2 hwz, h⟩
  have BS : ∀ W, S W → Below wa.heap.size wa W := fun W h => by rw [hS] at h; exact h.2
  have C0 := Lib.hid (fun W (h : S W) => (RW W (BS W h)).mono (R' := fun e W' => e = .returned (.string (bs rt)) ∧ S W') fun e W' ⟨h1, h2⟩ => ⟨h1, KS _ ((BS W h).trans (below_le' h2 (BS W h).size))⟩)
  have K0 : S wa.drew := KS _ ((Below.refl _ _).drew)
  have KA : S wa := KS _ (Below.refl _ _)
  have BSS := Lib.hid BS
  have HB := Lib.hid hb
  have HWA := Lib.hid hwa
  clear KS BS hb hN1 hwa hsh hnd hN ih HT u2 RW hnda hsha hex hrt hlt h4 hm0
  subst hS
  go_enter Tryd.func13, Tryd.ntmps13
  go_wp2_with fail
  rw [← HWA.out]
  go_region_held3 (fun W => W.cell? ⟨w.heap.size, 2, none⟩ = some (.string s) ∧ Below wa.heap.size wa W)
    (first | (with_reducible assumption) | (with_reducible exact K0) | (with_reducible exact KA))
    (first
      | (go_at_call 20; with_reducible refine (C0.out _ ?_).mono ?_; (with_reducible assumption); rintro e w10 ⟨rfl, hs10⟩))
  all_goals
    go_wp2_with fail
    go_ret
    exact ⟨rfl, HB.out.trans (below_le' (BSS.out _ (by with_reducible assumption)) HB.out.size)⟩

set_option maxRecDepth 100000 in
set_option maxHeartbeats 4000000 in
theorem bare_28 {N : Nat} (ih : ∀ N', N' < N → BareC N') (ln : Int) (s : ByteArray) (k n : Int) (t : ByteArray) (v : VL) (va : Option Addr) (vc : Nat) (sub : NL) (sa : Option Addr) (sc : Nat) (ea : Nat → Addr) (w : World) (hN : sub.tot < N) (hsh : ShAt w ea) (hnd : NdIn w 28 ln s k n t v va vc sub sa sc) (hm2 : 2 ≤ sub.len) :
    Calls Tryd.prog 13 #[.agg #[.int .i64 28, .int .i64 ln, .string s, .int .i64 k, .int .i64 n, .string t, .slice va v.len vc, .slice sa sub.len sc]] w (SayT w (nodeT 28 s k n t v (ntx sub)).b) := by
  obtain ⟨m, hm0⟩ : ∃ m, m = sub.len := ⟨_, rfl⟩
  rw [← hm0]
  obtain ⟨wa, hwa⟩ : ∃ wa, wa = w.alloc (.cells #[.int .i64 28, .int .i64 ln, .string s, .int .i64 k, .int .i64 n, .string t, .slice va v.len vc, .slice sa m sc] 29) := ⟨_, rfl⟩
  have hb : Below w.heap.size w wa := by rw [hwa]; exact (Below.refl _ _).alloc (Nat.le_refl _) _
  have hN1 : NdB wa w.heap.size (.int .i64 28) (.int .i64 ln) (.string s) (.int .i64 k) (.int .i64 n) (.string t) (.slice va v.len vc) (.slice sa m sc) := by rw [hwa]; exact NdB.new _ _ _ _ _ _ _ _ _
  have v0 := hN1.c0; have v2 := hN1.c2; have v7 := hN1.c7
  have u2 := v2
  have hwz : w.heap.size < wa.heap.size := by rw [hwa]; simp
  rw [hwa] at v0 v2 v7
  have hmc : m ≤ sc := by rw [hm0]; exact hnd.hsc
  have hex := hnd.ex.2.2.2.2.2.1
  have hnda := hnd.below hb
  have hsha := hsh.below hb
  have hlt := NL.len_tot sub
  have h4 := hnd.tot
  obtain ⟨b, o, hA⟩ := sa_of hnd (by omega)
  obtain ⟨q, hq⟩ : ∃ q, m = q + 1 := ⟨m - 1, by omega⟩
  obtain ⟨k0a0, k0a1, k0a2, k0a3, k0a4, k0a5, k0a6, k0a7, hbl0, K0⟩ := kid_of ih hN hsha hnda q (by omega) hA
  obtain ⟨x0, hx0⟩ : ∃ x, x = (ntx sub).getD q default := ⟨_, rfl⟩
  rw [← hx0] at K0
  have RW := fun W (hW : Below wa.heap.size wa W) => row_of (ih sub.tot hN) (sub.take q) (some ⟨b, o, none⟩) sc ea W (tot_take q sub) (Nat.le_trans (tot_take q sub) h4) (hsha.below hW) (ex_take hex) (by rw [len_take q sub (by omega)]; omega) (rp_take q sub _ (by have h := (hnda.below hW).hsub; rw [hA] at h; exact h))
  rw [len_take q sub (by omega)] at RW
  have hrl := ex_row_len (ex_take (i := q) hex) (Nat.le_trans (tot_take q sub) h4)
  rw [ntx_take] at hrl RW
  obtain ⟨rt, hrt⟩ : ∃ rt, rt = rowT ((ntx sub).take q) := ⟨_, rfl⟩
  rw [← hrt] at hrl RW
  rw [← bs_size] at hrl
  have HT := Lib.hid (show bs (nodeT 28 s k n t v (ntx sub)).b = ⟨#[123]⟩ ++ bs rt ++ ⟨#[125, 32, 61, 32]⟩ ++ bs x0.b by
    have e : (nodeT 28 s k n t v (ntx sub)).b = [123] ++ rt ++ [125, 32, 61, 32] ++ x0.b := by
      have h : (nodeT 28 s k n t v (ntx sub)).b = [123] ++ rowT ((ntx sub).take ((ntx sub).length - 1)) ++ [125, 32, 61, 32] ++ ((ntx sub).getD ((ntx sub).length - 1) default).b := rfl
      rw [h, ntx_len, show sub.len - 1 = q by omega, ← hrt, ← hx0]
    rw [e]; apply ByteArray.ext; simp [bs])
  rw [show SayT w (nodeT 28 s k n t v (ntx sub)).b = fun e w' => e = .returned (.string (bs (nodeT 28 s k n t v (ntx sub)).b)) ∧ Below w.heap.size w w' from rfl, HT.out]
  obtain ⟨c00, c01, c02, c03, c04, c05, c06, c07, ⟨z0a, z0b, z0c, z0d⟩, BC0, IC0, NC0, CC0⟩ := K0
  rw [← bs_size] at z0a
  have s1 : ¬ (9223372036854775807 < 1 + (bs rt).size) := by omega
  have s2 : ¬ (9223372036854775807 < 1 + (bs rt).size + 4) := by omega
  have s3 : ¬ (9223372036854775807 < 1 + (bs rt).size + 4 + (bs x0.b).size) := by omega
  obtain ⟨S, hS⟩ : ∃ S : World → Prop, S = fun W => W.cell? ⟨b, o + q * 8, none⟩ = some k0a0 ∧ W.cell? ⟨b, o + q * 8 + 1, none⟩ = some k0a1 ∧ W.cell? ⟨b, o + q * 8 + 2, none⟩ = some k0a2 ∧ W.cell? ⟨b, o + q * 8 + 3, none⟩ = some k0a3 ∧ W.cell? ⟨b, o + q * 8 + 4, none⟩ = some k0a4 ∧ W.cell? ⟨b, o + q * 8 + 5, none⟩ = some k0a5 ∧ W.cell? ⟨b, o + q * 8 + 6, none⟩ = some k0a6 ∧ W.cell? ⟨b, o + q * 8 + 7, none⟩ = some k0a7 ∧ Below wa.heap.size wa W := ⟨_, rfl⟩
  have KS : ∀ W, Below wa.heap.size wa W → S W := fun W h => by rw [hS]; exact ⟨cellB h c00 hbl0, cellB h c01 hbl0, cellB h c02 hbl0, cellB h c03 hbl0, cellB h c04 hbl0, cellB h c05 hbl0, cellB h c06 hbl0, cellB h c07 hbl0, h⟩
  have BS : ∀ W, S W → Below wa.heap.size wa W := fun W h => by rw [hS] at h; exact h.2.2.2.2.2.2.2.2
  have C0 := Lib.hid (fun W (h : S W) => (RW W (BS W h)).mono (R' := fun e W' => e = .returned (.string (bs rt)) ∧ S W') fun e W' ⟨h1, h2⟩ => ⟨h1, KS _ ((BS W h).trans (below_le' h2 (BS W h).size))⟩)
  have C1 := Lib.hid (fun W (h : S W) => (BC0 W (BS W h)).mono (R' := fun e W' => e = .returned (.string (bs x0.b)) ∧ S W') fun e W' ⟨h1, h2⟩ => ⟨h1, KS _ ((BS W h).trans (below_le' h2 (BS W h).size))⟩)
  have K0 : S wa.drew := KS _ ((Below.refl _ _).drew)
  have KA : S wa := KS _ (Below.refl _ _)
  have BSS := Lib.hid BS
  have HB := Lib.hid hb
  have HWA := Lib.hid hwa
  have e1 : IntKind.i64.wrap ((m : Int) - 1) = (q : Int) := by rw [show (m : Int) - 1 = (q : Int) by omega]; exact IntWalk.i64_in _ (by omega)
  have i1 : q < m := by omega
  have i2 : q ≤ sc := by omega
  have i3 : (q : Int) ≤ (sc : Int) := by omega
  have i4 : sc ≠ 0 := by omega
  have i5 : (q : Int) < (m : Int) := by omega
  subst hA
  clear KS BS hb hN1 hwa hsh hnd hN ih HT BC0 IC0 NC0 CC0 hx0 u2 RW hnda hsha hex hrt hlt h4 hm2 hq hm0
  subst hS
  go_enter Tryd.func13, Tryd.ntmps13
  go_wp2_with fail
  rw [← HWA.out]
  go_region_held3 (fun W => W.cell? ⟨b, o + q * 8, none⟩ = some k0a0 ∧ W.cell? ⟨b, o + q * 8 + 1, none⟩ = some k0a1 ∧ W.cell? ⟨b, o + q * 8 + 2, none⟩ = some k0a2 ∧ W.cell? ⟨b, o + q * 8 + 3, none⟩ = some k0a3 ∧ W.cell? ⟨b, o + q * 8 + 4, none⟩ = some k0a4 ∧ W.cell? ⟨b, o + q * 8 + 5, none⟩ = some k0a5 ∧ W.cell? ⟨b, o + q * 8 + 6, none⟩ = some k0a6 ∧ W.cell? ⟨b, o + q * 8 + 7, none⟩ = some k0a7 ∧ Below wa.heap.size wa W)
    (first | (with_reducible assumption) | (with_reducible exact K0) | (with_reducible exact KA))
    (first
      | (go_at_call 20; with_reducible refine (C0.out _ ?_).mono ?_; (with_reducible assumption); rintro e w10 ⟨rfl, hs10⟩)
      | (go_at_call 13; with_reducible refine (C1.out _ ?_).mono ?_; (with_reducible assumption); rintro e w11 ⟨rfl, hs11⟩))
  all_goals
    go_wp2_with fail
    go_ret
    exact ⟨rfl, HB.out.trans (below_le' (BSS.out _ (by with_reducible assumption)) HB.out.size)⟩
end Go.Proofs.YtocolgmfcjfjpaaDoor
namespace Go.Proofs.YtocolgmfcjfjpaaDoor
open Go.RowKit Go.Lib
set_option linter.unusedVariables false

set_option maxRecDepth 100000 in
set_option maxHeartbeats 4000000 in
theorem bare_29_2 {N : Nat} (ih : ∀ N', N' < N → BareC N') (ln : Int) (s : ByteArray) (k n : Int) (t : ByteArray) (v : VL) (va : Option Addr) (vc : Nat) (sub : NL) (sa : Option Addr) (sc : Nat) (ea : Nat → Addr) (w : World) (hN : sub.tot < N) (hsh : ShAt w ea) (hnd : NdIn w 29 ln s k n t v va vc sub sa sc) (hm : sub.len = 2) :
    Calls Tryd.prog 13 #[.agg #[.int .i64 29, .int .i64 ln, .string s, .int .i64 k, .int .i64 n, .string t, .slice va v.len vc, .slice sa sub.len sc]] w (SayT w (nodeT 29 s k n t v (ntx sub)).b) := by
  rw [hm]
  obtain ⟨wa, hwa⟩ : ∃ wa, wa = w.alloc (.cells #[.int .i64 29, .int .i64 ln, .string s, .int .i64 k, .int .i64 n, .string t, .slice va v.len vc, .slice sa 2 sc] 29) := ⟨_, rfl⟩
  have hb : Below w.heap.size w wa := by rw [hwa]; exact (Below.refl _ _).alloc (Nat.le_refl _) _
  have hN1 : NdB wa w.heap.size (.int .i64 29) (.int .i64 ln) (.string s) (.int .i64 k) (.int .i64 n) (.string t) (.slice va v.len vc) (.slice sa 2 sc) := by rw [hwa]; exact NdB.new _ _ _ _ _ _ _ _ _
  have v0 := hN1.c0; have v2 := hN1.c2; have v7 := hN1.c7
  have u2 := v2
  have hwz : w.heap.size < wa.heap.size := by rw [hwa]; simp
  rw [hwa] at v0 v2 v7
  have hex := hnd.ex.2.2.2.2.2.1
  have hnda := hnd.below hb
  have hsha := hsh.below hb
  have hlt := NL.len_tot sub
  have h4 := hnd.tot
  obtain ⟨b, o, hA⟩ := sa_of hnd (by omega)
  obtain ⟨k0a0, k0a1, k0a2, k0a3, k0a4, k0a5, k0a6, k0a7, hbl0, K0⟩ := kid_of ih hN hsha hnda 0 (by omega) hA
  obtain ⟨k1a0, k1a1, k1a2, k1a3, k1a4, k1a5, k1a6, k1a7, hbl1, K1⟩ := kid_of ih hN hsha hnda 1 (by omega) hA
  obtain ⟨x0, hx0⟩ : ∃ x, x = (ntx sub).getD 0 default := ⟨_, rfl⟩
  rw [← hx0] at K0
  rw [show o + 0 * 8 = o from by omega] at K0
  obtain ⟨x1, hx1⟩ : ∃ x, x = (ntx sub).getD 1 default := ⟨_, rfl⟩
  rw [← hx1] at K1
  rw [show o + 1 * 8 = o + 8 from by omega] at K1
  have HT := Lib.hid (show bs (nodeT 29 s k n t v (ntx sub)).b = ⟨#[96]⟩ ++ bs (inT x0) ++ ⟨#[32, 33, 32]⟩ ++ bs x1.cd ++ ⟨#[39]⟩ by
    have e : (nodeT 29 s k n t v (ntx sub)).b = [96] ++ inT x0 ++ [32, 33, 32] ++ x1.cd ++ [] ++ [39] := by
      have h : (nodeT 29 s k n t v (ntx sub)).b = [96] ++ inT ((ntx sub).getD 0 default) ++ [32, 33, 32] ++ ((ntx sub).getD 1 default).cd ++ (if 2 < (ntx sub).length then [32, 61, 62, 32] ++ inT ((ntx sub).getD 2 default) else []) ++ [39] := rfl
      rw [h, if_neg (by rw [ntx_len]; omega), ← hx0, ← hx1]
    rw [e]; apply ByteArray.ext; simp [bs])
  rw [show SayT w (nodeT 29 s k n t v (ntx sub)).b = fun e w' => e = .returned (.string (bs (nodeT 29 s k n t v (ntx sub)).b)) ∧ Below w.heap.size w w' from rfl, HT.out]
  obtain ⟨c00, c01, c02, c03, c04, c05, c06, c07, ⟨z0a, z0b, z0c, z0d⟩, BC0, IC0, NC0, CC0⟩ := K0
  obtain ⟨c10, c11, c12, c13, c14, c15, c16, c17, ⟨z1a, z1b, z1c, z1d⟩, BC1, IC1, NC1, CC1⟩ := K1
  rw [← bs_size] at z0d z1c
  have s1 : ¬ (9223372036854775807 < 1 + (bs (inT x0)).size) := by omega
  have s2 : ¬ (9223372036854775807 < 1 + (bs (inT x0)).size + 3) := by omega
  have s3 : ¬ (9223372036854775807 < 1 + (bs (inT x0)).size + 3 + (bs x1.cd).size) := by omega
  obtain ⟨S, hS⟩ : ∃ S : World → Prop, S = fun W => W.cell? ⟨b, o, none⟩ = some k0a0 ∧ W.cell? ⟨b, o + 1, none⟩ = some k0a1 ∧ W.cell? ⟨b, o + 2, none⟩ = some k0a2 ∧ W.cell? ⟨b, o + 3, none⟩ = some k0a3 ∧ W.cell? ⟨b, o + 4, none⟩ = some k0a4 ∧ W.cell? ⟨b, o + 5, none⟩ = some k0a5 ∧ W.cell? ⟨b, o + 6, none⟩ = some k0a6 ∧ W.cell? ⟨b, o + 7, none⟩ = some k0a7 ∧ W.cell? ⟨b, o + 8, none⟩ = some k1a0 ∧ W.cell? ⟨b, o + 8 + 1, none⟩ = some k1a1 ∧ W.cell? ⟨b, o + 8 + 2, none⟩ = some k1a2 ∧ W.cell? ⟨b, o + 8 + 3, none⟩ = some k1a3 ∧ W.cell? ⟨b, o + 8 + 4, none⟩ = some k1a4 ∧ W.cell? ⟨b, o + 8 + 5, none⟩ = some k1a5 ∧ W.cell? ⟨b, o + 8 + 6, none⟩ = some k1a6 ∧ W.cell? ⟨b, o + 8 + 7, none⟩ = some k1a7 ∧ Below wa.heap.size wa W := ⟨_, rfl⟩
  have KS : ∀ W, Below wa.heap.size wa W → S W := fun W h => by rw [hS]; exact ⟨cellB h c00 hbl0, cellB h c01 hbl0, cellB h c02 hbl0, cellB h c03 hbl0, cellB h c04 hbl0, cellB h c05 hbl0, cellB h c06 hbl0, cellB h c07 hbl0, cellB h c10 hbl1, cellB h c11 hbl1, cellB h c12 hbl1, cellB h c13 hbl1, cellB h c14 hbl1, cellB h c15 hbl1, cellB h c16 hbl1, cellB h c17 hbl1, h⟩
  have BS : ∀ W, S W → Below wa.heap.size wa W := fun W h => by rw [hS] at h; exact h.2.2.2.2.2.2.2.2.2.2.2.2.2.2.2.2
  have C0 := Lib.hid (fun W (h : S W) => (IC0 W (BS W h)).mono (R' := fun e W' => e = .returned (.string (bs (inT x0))) ∧ S W') fun e W' ⟨h1, h2⟩ => ⟨h1, KS _ ((BS W h).trans (below_le' h2 (BS W h).size))⟩)
  have C1 := Lib.hid (fun W (h : S W) => (CC1 W (BS W h)).mono (R' := fun e W' => e = .returned (.string (bs x1.cd)) ∧ S W') fun e W' ⟨h1, h2⟩ => ⟨h1, KS _ ((BS W h).trans (below_le' h2 (BS W h).size))⟩)
  have K0 : S wa.drew := KS _ ((Below.refl _ _).drew)
  have KA : S wa := KS _ (Below.refl _ _)
  have BSS := Lib.hid BS
  have HB := Lib.hid hb
  have HWA := Lib.hid hwa
  subst hA
  clear KS BS hb hN1 hwa hsh hnd hN ih HT BC0 IC0 NC0 CC0 BC1 IC1 NC1 CC1 hx0 hx1 u2 hnda hsha hex hlt h4 hm
  subst hS
  go_enter Tryd.func13, Tryd.ntmps13
  go_wp2_with fail
  rw [← HWA.out]
  go_region_held3 (fun W => W.cell? ⟨b, o, none⟩ = some k0a0 ∧ W.cell? ⟨b, o + 1, none⟩ = some k0a1 ∧ W.cell? ⟨b, o + 2, none⟩ = some k0a2 ∧ W.cell? ⟨b, o + 3, none⟩ = some k0a3 ∧ W.cell? ⟨b, o + 4, none⟩ = some k0a4 ∧ W.cell? ⟨b, o + 5, none⟩ = some k0a5 ∧ W.cell? ⟨b, o + 6, none⟩ = some k0a6 ∧ W.cell? ⟨b, o + 7, none⟩ = some k0a7 ∧ W.cell? ⟨b, o + 8, none⟩ = some k1a0 ∧ W.cell? ⟨b, o + 8 + 1, none⟩ = some k1a1 ∧ W.cell? ⟨b, o + 8 + 2, none⟩ = some k1a2 ∧ W.cell? ⟨b, o + 8 + 3, none⟩ = some k1a3 ∧ W.cell? ⟨b, o + 8 + 4, none⟩ = some k1a4 ∧ W.cell? ⟨b, o + 8 + 5, none⟩ = some k1a5 ∧ W.cell? ⟨b, o + 8 + 6, none⟩ = some k1a6 ∧ W.cell? ⟨b, o + 8 + 7, none⟩ = some k1a7 ∧ Below wa.heap.size wa W)
    (first | (with_reducible assumption) | (with_reducible exact K0) | (with_reducible exact KA))
    (first
      | (go_at_call 18; with_reducible refine (C0.out _ ?_).mono ?_; (with_reducible assumption); rintro e w10 ⟨rfl, hs10⟩)
      | (go_at_call 21; with_reducible refine (C1.out _ ?_).mono ?_; (with_reducible assumption); rintro e w11 ⟨rfl, hs11⟩))
  all_goals
    go_wp2_with fail
    go_ret
    exact ⟨rfl, HB.out.trans (below_le' (BSS.out _ (by with_reducible assumption)) HB.out.size)⟩

set_option maxRecDepth 100000 in
set_option maxHeartbeats 4000000 in
theorem bare_29_3 {N : Nat} (ih : ∀ N', N' < N → BareC N') (ln : Int) (s : ByteArray) (k n : Int) (t : ByteArray) (v : VL) (va : Option Addr) (vc : Nat) (sub : NL) (sa : Option Addr) (sc : Nat) (ea : Nat → Addr) (w : World) (hN : sub.tot < N) (hsh : ShAt w ea) (hnd : NdIn w 29 ln s k n t v va vc sub sa sc) (hm : sub.len = 3) :
    Calls Tryd.prog 13 #[.agg #[.int .i64 29, .int .i64 ln, .string s, .int .i64 k, .int .i64 n, .string t, .slice va v.len vc, .slice sa sub.len sc]] w (SayT w (nodeT 29 s k n t v (ntx sub)).b) := by
  rw [hm]
  obtain ⟨wa, hwa⟩ : ∃ wa, wa = w.alloc (.cells #[.int .i64 29, .int .i64 ln, .string s, .int .i64 k, .int .i64 n, .string t, .slice va v.len vc, .slice sa 3 sc] 29) := ⟨_, rfl⟩
  have hb : Below w.heap.size w wa := by rw [hwa]; exact (Below.refl _ _).alloc (Nat.le_refl _) _
  have hN1 : NdB wa w.heap.size (.int .i64 29) (.int .i64 ln) (.string s) (.int .i64 k) (.int .i64 n) (.string t) (.slice va v.len vc) (.slice sa 3 sc) := by rw [hwa]; exact NdB.new _ _ _ _ _ _ _ _ _
  have v0 := hN1.c0; have v2 := hN1.c2; have v7 := hN1.c7
  have u2 := v2
  have hwz : w.heap.size < wa.heap.size := by rw [hwa]; simp
  rw [hwa] at v0 v2 v7
  have hex := hnd.ex.2.2.2.2.2.1
  have hnda := hnd.below hb
  have hsha := hsh.below hb
  have hlt := NL.len_tot sub
  have h4 := hnd.tot
  obtain ⟨b, o, hA⟩ := sa_of hnd (by omega)
  obtain ⟨k0a0, k0a1, k0a2, k0a3, k0a4, k0a5, k0a6, k0a7, hbl0, K0⟩ := kid_of ih hN hsha hnda 0 (by omega) hA
  obtain ⟨k1a0, k1a1, k1a2, k1a3, k1a4, k1a5, k1a6, k1a7, hbl1, K1⟩ := kid_of ih hN hsha hnda 1 (by omega) hA
  obtain ⟨k2a0, k2a1, k2a2, k2a3, k2a4, k2a5, k2a6, k2a7, hbl2, K2⟩ := kid_of ih hN hsha hnda 2 (by omega) hA
  obtain ⟨x0, hx0⟩ : ∃ x, x = (ntx sub).getD 0 default := ⟨_, rfl⟩
  rw [← hx0] at K0
  rw [show o + 0 * 8 = o from by omega] at K0
  obtain ⟨x1, hx1⟩ : ∃ x, x = (ntx sub).getD 1 default := ⟨_, rfl⟩
  rw [← hx1] at K1
  rw [show o + 1 * 8 = o + 8 from by omega] at K1
  obtain ⟨x2, hx2⟩ : ∃ x, x = (ntx sub).getD 2 default := ⟨_, rfl⟩
  rw [← hx2] at K2
  rw [show o + 2 * 8 = o + 16 from by omega] at K2
  have HT := Lib.hid (show bs (nodeT 29 s k n t v (ntx sub)).b = ⟨#[96]⟩ ++ bs (inT x0) ++ ⟨#[32, 33, 32]⟩ ++ bs x1.cd ++ (⟨#[32, 61, 62, 32]⟩ ++ bs (inT x2)) ++ ⟨#[39]⟩ by
    have e : (nodeT 29 s k n t v (ntx sub)).b = [96] ++ inT x0 ++ [32, 33, 32] ++ x1.cd ++ ([32, 61, 62, 32] ++ inT x2) ++ [39] := by
      have h : (nodeT 29 s k n t v (ntx sub)).b = [96] ++ inT ((ntx sub).getD 0 default) ++ [32, 33, 32] ++ ((ntx sub).getD 1 default).cd ++ (if 2 < (ntx sub).length then [32, 61, 62, 32] ++ inT ((ntx sub).getD 2 default) else []) ++ [39] := rfl
      rw [h, if_pos (by rw [ntx_len]; omega), ← hx0, ← hx1, ← hx2]
    rw [e]; apply ByteArray.ext; simp [bs])
  rw [show SayT w (nodeT 29 s k n t v (ntx sub)).b = fun e w' => e = .returned (.string (bs (nodeT 29 s k n t v (ntx sub)).b)) ∧ Below w.heap.size w w' from rfl, HT.out]
  obtain ⟨c00, c01, c02, c03, c04, c05, c06, c07, ⟨z0a, z0b, z0c, z0d⟩, BC0, IC0, NC0, CC0⟩ := K0
  obtain ⟨c10, c11, c12, c13, c14, c15, c16, c17, ⟨z1a, z1b, z1c, z1d⟩, BC1, IC1, NC1, CC1⟩ := K1
  obtain ⟨c20, c21, c22, c23, c24, c25, c26, c27, ⟨z2a, z2b, z2c, z2d⟩, BC2, IC2, NC2, CC2⟩ := K2
  rw [← bs_size] at z0d z1c z2d
  have s1 : ¬ (9223372036854775807 < 1 + (bs (inT x0)).size) := by omega
  have s2 : ¬ (9223372036854775807 < 1 + (bs (inT x0)).size + 3) := by omega
  have s3 : ¬ (9223372036854775807 < 1 + (bs (inT x0)).size + 3 + (bs x1.cd).size) := by omega
  obtain ⟨S, hS⟩ : ∃ S : World → Prop, S = fun W => W.cell? ⟨b, o, none⟩ = some k0a0 ∧ W.cell? ⟨b, o + 1, none⟩ = some k0a1 ∧ W.cell? ⟨b, o + 2, none⟩ = some k0a2 ∧ W.cell? ⟨b, o + 3, none⟩ = some k0a3 ∧ W.cell? ⟨b, o + 4, none⟩ = some k0a4 ∧ W.cell? ⟨b, o + 5, none⟩ = some k0a5 ∧ W.cell? ⟨b, o + 6, none⟩ = some k0a6 ∧ W.cell? ⟨b, o + 7, none⟩ = some k0a7 ∧ W.cell? ⟨b, o + 8, none⟩ = some k1a0 ∧ W.cell? ⟨b, o + 8 + 1, none⟩ = some k1a1 ∧ W.cell? ⟨b, o + 8 + 2, none⟩ = some k1a2 ∧ W.cell? ⟨b, o + 8 + 3, none⟩ = some k1a3 ∧ W.cell? ⟨b, o + 8 + 4, none⟩ = some k1a4 ∧ W.cell? ⟨b, o + 8 + 5, none⟩ = some k1a5 ∧ W.cell? ⟨b, o + 8 + 6, none⟩ = some k1a6 ∧ W.cell? ⟨b, o + 8 + 7, none⟩ = some k1a7 ∧ Below wa.heap.size wa W := ⟨_, rfl⟩
  have KS : ∀ W, Below wa.heap.size wa W → S W := fun W h => by rw [hS]; exact ⟨cellB h c00 hbl0, cellB h c01 hbl0, cellB h c02 hbl0, cellB h c03 hbl0, cellB h c04 hbl0, cellB h c05 hbl0, cellB h c06 hbl0, cellB h c07 hbl0, cellB h c10 hbl1, cellB h c11 hbl1, cellB h c12 hbl1, cellB h c13 hbl1, cellB h c14 hbl1, cellB h c15 hbl1, cellB h c16 hbl1, cellB h c17 hbl1, h⟩
  have BS : ∀ W, S W → Below wa.heap.size wa W := fun W h => by rw [hS] at h; exact h.2.2.2.2.2.2.2.2.2.2.2.2.2.2.2.2
  have C0 := Lib.hid (fun W (h : S W) => (IC0 W (BS W h)).mono (R' := fun e W' => e = .returned (.string (bs (inT x0))) ∧ S W') fun e W' ⟨h1, h2⟩ => ⟨h1, KS _ ((BS W h).trans (below_le' h2 (BS W h).size))⟩)
  have C1 := Lib.hid (fun W (h : S W) => (CC1 W (BS W h)).mono (R' := fun e W' => e = .returned (.string (bs x1.cd)) ∧ S W') fun e W' ⟨h1, h2⟩ => ⟨h1, KS _ ((BS W h).trans (below_le' h2 (BS W h).size))⟩)
  have K0 : S wa.drew := KS _ ((Below.refl _ _).drew)
  have KA : S wa := KS _ (Below.refl _ _)
  have BSS := Lib.hid BS
  have HB := Lib.hid hb
  have HWA := Lib.hid hwa
  have HK2 := Lib.hid (fun W (hW : Below wa.heap.size wa W) => (⟨cellB hW c20 hbl2, cellB hW c21 hbl2, cellB hW c22 hbl2, cellB hW c23 hbl2, cellB hW c24 hbl2, cellB hW c25 hbl2, cellB hW c26 hbl2, cellB hW c27 hbl2⟩ : W.cell? ⟨b, o + 16, none⟩ = some k2a0 ∧ W.cell? ⟨b, o + 16 + 1, none⟩ = some k2a1 ∧ W.cell? ⟨b, o + 16 + 2, none⟩ = some k2a2 ∧ W.cell? ⟨b, o + 16 + 3, none⟩ = some k2a3 ∧ W.cell? ⟨b, o + 16 + 4, none⟩ = some k2a4 ∧ W.cell? ⟨b, o + 16 + 5, none⟩ = some k2a5 ∧ W.cell? ⟨b, o + 16 + 6, none⟩ = some k2a6 ∧ W.cell? ⟨b, o + 16 + 7, none⟩ = some k2a7))
  have HC2 := Lib.hid IC2
  subst hA
  clear KS BS hb hN1 hwa hsh hnd hN ih HT BC0 IC0 NC0 CC0 BC1 IC1 NC1 CC1 BC2 IC2 NC2 CC2 hx0 hx1 hx2 u2 hnda hsha hex hlt h4 hm
  subst hS
  go_enter Tryd.func13, Tryd.ntmps13
  go_wp2_with fail
  rw [← HWA.out]
  go_region_held3 (fun W => W.cell? ⟨b, o, none⟩ = some k0a0 ∧ W.cell? ⟨b, o + 1, none⟩ = some k0a1 ∧ W.cell? ⟨b, o + 2, none⟩ = some k0a2 ∧ W.cell? ⟨b, o + 3, none⟩ = some k0a3 ∧ W.cell? ⟨b, o + 4, none⟩ = some k0a4 ∧ W.cell? ⟨b, o + 5, none⟩ = some k0a5 ∧ W.cell? ⟨b, o + 6, none⟩ = some k0a6 ∧ W.cell? ⟨b, o + 7, none⟩ = some k0a7 ∧ W.cell? ⟨b, o + 8, none⟩ = some k1a0 ∧ W.cell? ⟨b, o + 8 + 1, none⟩ = some k1a1 ∧ W.cell? ⟨b, o + 8 + 2, none⟩ = some k1a2 ∧ W.cell? ⟨b, o + 8 + 3, none⟩ = some k1a3 ∧ W.cell? ⟨b, o + 8 + 4, none⟩ = some k1a4 ∧ W.cell? ⟨b, o + 8 + 5, none⟩ = some k1a5 ∧ W.cell? ⟨b, o + 8 + 6, none⟩ = some k1a6 ∧ W.cell? ⟨b, o + 8 + 7, none⟩ = some k1a7 ∧ Below wa.heap.size wa W)
    (first | (with_reducible assumption) | (with_reducible exact K0) | (with_reducible exact KA))
    (first
      | (go_at_call 18; with_reducible refine (C0.out _ ?_).mono ?_; (with_reducible assumption); rintro e w10 ⟨rfl, hs10⟩)
      | (go_at_call 21; with_reducible refine (C1.out _ ?_).mono ?_; (with_reducible assumption); rintro e w11 ⟨rfl, hs11⟩))
  all_goals
    have hB1 := BSS.out _ (by with_reducible assumption)
    have HB1 := Lib.hid hB1
    obtain ⟨y0, y1, y2, y3, y4, y5, y6, y7⟩ := HK2.out _ hB1
    clear hB1
    go_wp2_with fail
    refine (HC2.out _ HB1.out).mono ?_
    rintro e w20 ⟨rfl, hb20⟩
    have HB20 := Lib.hid (HB.out.trans (below_le' (HB1.out.trans (below_le' hb20 HB1.out.size)) HB.out.size))
    clear hb20
    go_wp2_with fail
    go_ret
    exact ⟨rfl, HB20.out⟩
end Go.Proofs.YtocolgmfcjfjpaaDoor
namespace Go.Proofs.YtocolgmfcjfjpaaDoor
open Go.RowKit Go.Lib
set_option linter.unusedVariables false

theorem bare_step (N : Nat) (ih : ∀ N', N' < N → BareC N') : BareC N := by
  intro op ln s k n t v va vc sub sa sc ea w hN hsh hnd
  rcases op_kind hnd.ex.1 hnd.ex.2.1 with ⟨rfl, hm⟩ | ⟨rfl, hm⟩ | ⟨rfl, hm⟩ | ⟨rfl, hm⟩ | ⟨hb, hm⟩ | ⟨rfl, hm⟩ | ⟨rfl, hm⟩ | ⟨rfl, hm⟩ | ⟨rfl, hm⟩ | ⟨rfl, hm⟩ | rfl | rfl | ⟨rfl, hm⟩ | ⟨rfl, hm⟩ | ⟨rfl, hm⟩ | ⟨rfl, hm⟩
  · exact bare_1 ln s k n t v va vc sub sa sc ea w hsh hnd
  · exact bare_2 ln s k n t v va vc sub sa sc w
  · exact bare_3 ih ln s k n t v va vc sub sa sc ea w hN hsh hnd hm
  · exact bare_4 ih ln s k n t v va vc sub sa sc ea w hN hsh hnd hm
  · exact bare_bin ih op ln s k n t v va vc sub sa sc ea w hN hsh hnd hm hb
  · exact bare_19 ih ln s k n t v va vc sub sa sc ea w hN hsh hnd hm
  · exact bare_20 ih ln s k n t v va vc sub sa sc ea w hN hsh hnd hm
  · exact bare_21 ih ln s k n t v va vc sub sa sc ea w hN hsh hnd hm
  · exact bare_22 ih ln s k n t v va vc sub sa sc ea w hN hsh hnd hm
  · exact bare_23 ih ln s k n t v va vc sub sa sc ea w hN hsh hnd hm
  · exact bare_24 ih ln s k n t v va vc sub sa sc ea w hN hsh hnd
  · exact bare_25 (ih sub.tot hN) ln s k n t v va vc sub sa sc ea w (Nat.le_refl _) hsh hnd
  · exact bare_26 ih ln s k n t v va vc sub sa sc ea w hN hsh hnd hm
  · exact bare_27 ih ln s k n t v va vc sub sa sc ea w hN hsh hnd hm
  · exact bare_28 ih ln s k n t v va vc sub sa sc ea w hN hsh hnd hm
  · rcases hm with hm | hm
    · exact bare_29_2 ih ln s k n t v va vc sub sa sc ea w hN hsh hnd hm
    · exact bare_29_3 ih ln s k n t v va vc sub sa sc ea w hN hsh hnd hm
theorem bare_c (N : Nat) : BareC N := by
  induction N using Nat.strongRecOn with
  | _ N ih => exact bare_step N ih

/-- Without errors what is right as an expression is what its text asks for. -/
theorem right_ex {l : NL} (hfit : l.fit) (h64 : l.i64) (hr : rightN l 0 = true) : ExN l ∧ l.tot ≤ 4096 := by
  simp only [rightN, Bool.and_eq_true, decide_eq_true_eq, Option.isNone_iff_eq_none] at hr
  exact ⟨ex_of_walk l _ 0 hfit h64 hr.2 (fun _ => Nat.zero_le _), hr.1.1⟩

set_option maxRecDepth 100000 in
set_option maxHeartbeats 2000000 in
theorem exprS_c (op ln : Int) (s : ByteArray) (k n : Int) (t : ByteArray) (v : VL) (va : Option Addr) (vc : Nat) (sub : NL) (sa : Option Addr) (sc : Nat) (ea : Nat → Addr) (w : World) (hsh : ShAt w ea)
    (hfit : (node1 op ln s k n t v sub).fit) (h64 : (node1 op ln s k n t v sub).i64) (hvc : v.len ≤ vc) (hsc : sub.len ≤ sc) (hv : RpL w (fun b => b < w.heap.size) v va) (hsub : RpN w (fun b => b < w.heap.size) sub sa) (hr : rightN (node1 op ln s k n t v sub) 0 = true) :
    Calls Tryd.prog 7 #[.agg #[.int .i64 op, .int .i64 ln, .string s, .int .i64 k, .int .i64 n, .string t, .slice va v.len vc, .slice sa sub.len sc]] w
      fun e w' => e = .returned (.tuple #[.string (bs (nodeT op s k n t v (ntx sub)).b), .nilIface]) ∧ Below w.heap.size w w' := by
  obtain ⟨hex, htot⟩ := right_ex hfit h64 hr
  have ht2 : sub.tot ≤ 4096 := by simp only [node1, NL.tot] at htot; omega
  obtain ⟨wa, hwa⟩ : ∃ wa, wa = w.alloc (.cells #[.int .i64 op, .int .i64 ln, .string s, .int .i64 k, .int .i64 n, .string t, .slice va v.len vc, .slice sa sub.len sc] 29) := ⟨_, rfl⟩
  have hb : Below w.heap.size w wa := by rw [hwa]; exact (Below.refl _ _).alloc (Nat.le_refl _) _
  have hN1 : NdB wa w.heap.size (.int .i64 op) (.int .i64 ln) (.string s) (.int .i64 k) (.int .i64 n) (.string t) (.slice va v.len vc) (.slice sa sub.len sc) := by rw [hwa]; exact NdB.new _ _ _ _ _ _ _ _ _
  have v0 := hN1.c0; have v1 := hN1.c1; have v2 := hN1.c2; have v3 := hN1.c3; have v4 := hN1.c4; have v5 := hN1.c5; have v6 := hN1.c6; have v7 := hN1.c7
  rw [hwa] at v0 v1 v2 v3 v4 v5 v6 v7
  have hsha := hsh.below hb
  have hva := hv.keep (w' := wa) (fun b hlt => hb.block b hlt) (fun b hlt => Nat.lt_of_lt_of_le hlt hb.size)
  have hsa := hsub.keep (w' := wa) (fun b hlt => hb.block b hlt) (fun b hlt => Nat.lt_of_lt_of_le hlt hb.size)
  have EC := Lib.hid (expr_tc op ln s k n t v va vc sub sa sc ea wa hsha.err hfit hvc hsc hva hsa)
  have hnd : NdIn wa op ln s k n t v va vc sub sa sc := ⟨hex, ht2, hvc, hsc, hva, hsa⟩
  have BC := Lib.hid (fun W (hW : Below wa.heap.size wa W) => bare_c (sub.tot + 1) op ln s k n t v va vc sub sa sc ea W (by omega) (hsha.below hW) (hnd.below hW))
  have HN := Lib.hid hN1
  have HB := Lib.hid hb
  have HWA := Lib.hid hwa
  have HR := Lib.hid hr
  clear hb hN1 hwa hsh hsha hva hsa hnd hv hsub hr
  go_enter Tryd.func7, Tryd.ntmps7
  go_wp2_with fail
  rw [← HWA.out]
  refine EC.out.mono ?_
  intro e w2 hp
  obtain ⟨hb2, rfl⟩ := hp.right HR.out
  have hN2 := HN.out.below' hb2
  have y0 := hN2.c0; have y1 := hN2.c1; have y2 := hN2.c2; have y3 := hN2.c3; have y4 := hN2.c4; have y5 := hN2.c5; have y6 := hN2.c6; have y7 := hN2.c7
  have HB2 := Lib.hid hb2
  clear hp hb2 hN2 v0 v1 v2 v3 v4 v5 v6 v7
  go_wp2_with fail
  refine (BC.out w2 HB2.out).mono ?_
  rintro e w3 ⟨rfl, hb3⟩
  have HB3 := Lib.hid (HB.out.trans (below_le' (HB2.out.trans (below_le' hb3 HB2.out.size)) HB.out.size))
  clear hb3
  go_wp2_with fail
  go_ret2
  exact ⟨rfl, HB3.out⟩
end Go.Proofs.YtocolgmfcjfjpaaDoor
namespace Go.Proofs.YtocolgmfcjfjpaaDoor
open Go.RowKit Go.Lib
set_option linter.unusedVariables false

/-- A string appended to a row of bytes of the call's own, as a step of a region that draws. -/
theorem step_append_str {P : Program} (w : World) {ops : Array Oper} {o : Oper} {a : Act} {K : Act → World → Prop} {Q : Exit → Act → World → Prop} {E : Prop} (hgd : o.guard = none) (sl x : Operand) (t u : TypeId)
    (ho : o.op = .call { callee := .builtin .append, args := #[sl, x], argTypes := #[t, u] })
    (base : Nat) (e : TypeId) (i : TypeInfo) (ht : P.underlying t = some (.slice e)) (hu : P.underlying u = some .string) (hi : P.info? e = some i) (hz : i.zero = some (.int .u8 0))
    (hsize : i.size = 1) (hby : i.bytes = 1)
    (v : Value) (n : Nat) (xs : List Value) (hs : a.eval sl = v) (hown : w.ownsRow base e 1 v n xs) (s : ByteArray) (hx : a.eval x = .string s)
    (h63 : n + s.size ≤ maxLen) (hbytes : n + s.size ≤ 140737488355328) (hbase : base ≤ w.heap.size)
    (h : ∀ A cap w', w'.ownsRow base e 1 (.slice A (n + s.size) cap) (n + s.size) (xs ++ strCells s) → w.grownBy w' v.ownBlock → K (a.put o.dst (.slice A (n + s.size) cap)) w') :
    if Region.wanted o (yielded ops a.tmps) = true then Oper.wp P o a w K Q else E := by
  have hw : Region.wanted o (yielded ops a.tmps) = true := by simp [Region.wanted, hgd]
  rw [if_pos hw]
  obtain ⟨v', w', hr, h2, h3, h4⟩ := run_append_own_string (P := P) w base t u o.type e i ht hu hi hz hsize hby v n xs hown s h63 hbytes hbase
  obtain ⟨A, cap, rfl⟩ := own_form h2
  unfold Oper.wp execOp
  simp only [ho, resolve, invoke, builtin, Sem.run_bind, Sem.run_pure, Result.andThen_ok, List.map_toArray, List.map_cons, List.map_nil, hs, hx, hr]
  exact h A cap w' h2 h3

/-- A writer, and what it has written. -/
def LnSt (w : World) (W : Nat) (acc : List UInt8) : Prop := ∃ v, w.heap[W]? = some (.cells #[v] 47 (0, 0)) ∧ w.ownsRow (W + 1) 5 1 v (bs acc).size (strCells (bs acc))
theorem LnSt.lt {w : World} {W : Nat} {acc : List UInt8} (h : LnSt w W acc) : W < w.heap.size := by
  obtain ⟨v, hW, _⟩ := h
  rcases Nat.lt_or_ge W w.heap.size with hlt | hge
  · exact hlt
  · rw [Array.getElem?_eq_none hge] at hW; cases hW
theorem LnSt.below {w w' : World} {W : Nat} {acc : List UInt8} (h : LnSt w W acc) (hb : Below w.heap.size w w') : LnSt w' W acc := by
  have hlt := h.lt
  obtain ⟨v, hW, ho⟩ := h
  exact ⟨v, (hb.block W hlt).trans hW, own_below ho hb⟩
theorem rep_len (d : Nat) : repeatL ([32, 32] : List UInt8) d = List.replicate (2 * d) 32 := by
  induction d with
  | zero => rfl
  | succ d ih => rw [repeatL, ih, show 2 * (d + 1) = 2 * d + 1 + 1 from by omega, List.replicate_succ, List.replicate_succ]; rfl
theorem byte_info : (Tryd.prog.info? 5).map (fun i => (i.zero, i.size, i.bytes)) = some (some (.int .u8 0), 1, 1) := by kernel_rfl
theorem strCells_app (a b : List UInt8) : strCells (bs (a ++ b)) = strCells (bs a) ++ strCells (bs b) := by simp [strCells, bs]

theorem own_far {w w' : World} {base e size n : Nat} {v : Value} {xs : List Value} (h : w.ownsRow base e size v n xs) (hk : ∀ g, base ≤ g → w'.heap[g]? = w.heap[g]?) : w'.ownsRow base e size v n xs := by
  refine ⟨h.1, ?_⟩
  rcases h.2 with h0 | ⟨g, cap, cur, hv, hb1, hh, r⟩
  · exact .inl h0
  · exact .inr ⟨g, cap, cur, hv, hb1, (hk g hb1).trans hh, r⟩
/-- What a line leaves. -/
theorem line_end {w w2 w' : World} {W : Nat} {acc l : List UInt8} {VA A : Option Addr} {VC cap : Nat} {t : ByteArray} (hlt : W < w.heap.size) (hW2 : w2.heap[W]? = some (.cells #[.slice VA (bs acc).size VC] 47 (0, 0))) (hb2 : Below w.heap.size w w2)
    (ho : w2.ownsRow (W + 1) 5 1 (.slice VA (bs acc).size VC) (bs acc).size (strCells (bs acc))) (hne : some W ≠ (Value.slice VA (bs acc).size VC).ownBlock) (ht : t = bs l)
    (hown' : w'.ownsRow (W + 1) 5 1 (.slice A ((bs acc).size + t.size) cap) ((bs acc).size + t.size) (strCells (bs acc) ++ strCells t)) (hg : w2.grownBy w' (Value.slice VA (bs acc).size VC).ownBlock) :
    Below W w (w'.setCell ⟨W, 0, none⟩ (.slice A ((bs acc).size + t.size) cap)) ∧ LnSt (w'.setCell ⟨W, 0, none⟩ (.slice A ((bs acc).size + t.size) cap)) W (acc ++ l) := by
  have hz := hb2.size
  have hlt2 : W < w2.heap.size := by omega
  have hbW : Below W w w2 := below_le' hb2 (Nat.le_of_lt hlt)
  have h1 : Below W w w' := grown_below hbW (Nat.le_of_lt hlt2) hg (fun k hk => by have := (ho.lt k hk).1; omega)
  refine ⟨h1.setCell (Nat.le_refl W) _, .slice A ((bs acc).size + t.size) cap, ?_, ?_⟩
  · have hW' := (hg.block W hlt2 hne).trans hW2
    have := heap_setCell_same w' W 0 _ _ (.slice A ((bs acc).size + t.size) cap) hW'
    simpa using this
  · have h2 := own_far (w' := w'.setCell ⟨W, 0, none⟩ (.slice A ((bs acc).size + t.size) cap)) hown' (fun g hgb => Below.heap_setCell _ _ _ _ (by show g ≠ W; omega))
    subst ht
    rw [strCells_app, show (bs (acc ++ l)).size = (bs acc).size + (bs l).size by rw [bs_size, bs_size, bs_size, List.length_append]]
    exact h2

set_option maxRecDepth 100000 in
set_option maxHeartbeats 4000000 in
theorem line_c (W : Nat) (acc : List UInt8) (d : Nat) (s : ByteArray) (w : World) (h : LnSt w W acc) (hd : d ≤ 5000) (hs : s.size ≤ 2000000000) (ha : acc.length ≤ 100000000000000) :
    Calls Tryd.prog 32 #[.pointer (some ⟨W, 0, none⟩), .int .i64 (d : Int), .string s] w fun e w' => e = .returned (.tuple #[]) ∧ Below W w w' ∧ LnSt w' W (acc ++ lineT d s.data.toList) := by
  have hlt := h.lt
  obtain ⟨v, hW, hown⟩ := h
  obtain ⟨i0, hi0, hz0, hz1, hz2⟩ := info_parts byte_info
  obtain ⟨VA, VC, hv⟩ := own_form hown
  subst hv
  have c0 : w.cell? ⟨W, 0, none⟩ = some (.slice VA (bs acc).size VC) := cell_of_row w W 0 _ _ _ hW
  have f0 : w.frozen? ⟨W, 0, none⟩ = false := by simp [World.frozen?, hW]
  have RC := fun W' => Tryd.strings_Repeat ⟨#[32, 32]⟩ d W' (by omega) (by show 2 * d ≤ _; omega)
  rw [show (⟨#[32, 32]⟩ : ByteArray).data.toList = [32, 32] from rfl, rep_len] at RC
  obtain ⟨r, hr⟩ : ∃ r : ByteArray, r = ⟨(List.replicate (2 * d) (32 : UInt8)).toArray⟩ := ⟨_, rfl⟩
  have hrs : r.size ≤ 10000 := by rw [hr]; show (List.replicate (2 * d) (32 : UInt8)).toArray.size ≤ _; rw [List.size_toArray, List.length_replicate]; omega
  have hln : r ++ s ++ ⟨#[10]⟩ = bs (lineT d s.data.toList) := by rw [hr]; unfold lineT; apply ByteArray.ext; simp [bs]
  rw [← hr] at RC
  clear hr
  have hsz : (r ++ s ++ ⟨#[10]⟩ : ByteArray).size = r.size + s.size + 1 := by rw [ByteArray.size_append, ByteArray.size_append]; rfl
  have s1 : ¬ (9223372036854775807 < r.size + s.size) := by omega
  have s2 : ¬ (9223372036854775807 < r.size + s.size + 1) := by omega
  have hac : (bs acc).size ≤ 100000000000000 := by rw [bs_size]; exact ha
  have HO := Lib.hid (show w.drew.ownsRow (W + 1) 5 1 (.slice VA (bs acc).size VC) (bs acc).size (strCells (bs acc)) from hown)
  have HW := Lib.hid hW
  have d0 : w.drew.cell? ⟨W, 0, none⟩ = some (.slice VA (bs acc).size VC) := c0
  have g0 : w.drew.frozen? ⟨W, 0, none⟩ = false := f0
  have HRC := Lib.hid RC
  have HLN := Lib.hid hln
  have HSZ := Lib.hid hsz
  have n1 : (bs acc).size + (r ++ s ++ ⟨#[10]⟩ : ByteArray).size ≤ maxLen := by unfold maxLen; omega
  have n2 : (bs acc).size + (r ++ s ++ ⟨#[10]⟩ : ByteArray).size ≤ 140737488355328 := by omega
  have N1 := Lib.hid n1
  have N2 := Lib.hid n2
  clear hown hW RC hln hsz n1 n2
  go_enter Tryd.func32, Tryd.ntmps32
  go_wp2_with fail
  go_region_law (first
    | (refine step_append_str _ (by rfl) (.tmp 10) (.tmp 15) 45 9 (by rfl) (W + 1) 5 i0 Tryd.underlying45 Tryd.underlying9 hi0 hz0 hz1 hz2 (.slice VA (bs acc).size VC) (bs acc).size (strCells (bs acc)) (by rfl) (HO2.out) (r ++ s ++ ⟨#[10]⟩) (by rfl) N1.out N2.out hz2' ?_
       intro A cap w' hown' hgrow'
       have hcx := (World.cell?_of_block (w := w2) (hgrow'.block W hlt2 hneW.out)).trans y0
       have hfx := (World.frozen?_of_block (w := w2) (hgrow'.block W hlt2 hneW.out)).trans z0)
    | (go_simp; go_at_call 47; refine (HRC.out _).mono ?_; rintro e w2 ⟨rfl, hb2⟩
       have HO2 := Lib.hid (own_below HO.out hb2)
       have hb2z := hb2.size
       have hlt2 : W < w2.heap.size := Nat.lt_of_lt_of_le hlt hb2z
       have hz2' : W + 1 ≤ w2.heap.size := hlt2
       have hneW := Lib.hid (show some W ≠ (Value.slice VA (bs acc).size VC).ownBlock by
         intro hc
         have := (HO2.out.lt W hc.symm).1
         omega)
       have y0 : w2.cell? ⟨W, 0, none⟩ = some (.slice VA (bs acc).size VC) := (World.cell?_of_block (w := w.drew) (hb2.block W hlt)).trans d0
       have z0 : w2.frozen? ⟨W, 0, none⟩ = false := (World.frozen?_of_block (w := w.drew) (hb2.block W hlt)).trans g0
       have HW2 := Lib.hid ((hb2.block W hlt).trans HW.out)))
  all_goals
    go_wp2_with fail
    go_end0
    have LE := line_end (l := lineT d s.data.toList) hlt HW2.out ((Below.refl _ _).drew.trans hb2) HO2.out hneW.out HLN.out hown' hgrow'
    rw [HSZ.out] at LE
    exact ⟨rfl, LE.1, LE.2⟩
end Go.Proofs.YtocolgmfcjfjpaaDoor
namespace Go.Proofs.YtocolgmfcjfjpaaDoor
open Go.RowKit Go.Lib
set_option linter.unusedVariables false

/-- A Do in memory: one node under it. -/
structure DoIn (w : World) (ln : Int) (s : ByteArray) (k n : Int) (t : ByteArray) (v : VL) (va : Option Addr) (vc : Nat) (sub : NL) (sa : Option Addr) (sc : Nat) : Prop where
  ex : ExN sub
  one : sub.len = 1
  tot : sub.tot ≤ 4096
  hvc : v.len ≤ vc
  hsc : sub.len ≤ sc
  hv : RpL w (fun b => b < w.heap.size) v va
  hsub : RpN w (fun b => b < w.heap.size) sub sa
theorem DoIn.below {w w' : World} {ln : Int} {s : ByteArray} {k n : Int} {t : ByteArray} {v : VL} {va : Option Addr} {vc : Nat} {sub : NL} {sa : Option Addr} {sc : Nat} (h : DoIn w ln s k n t v va vc sub sa sc) (hb : Below w.heap.size w w') : DoIn w' ln s k n t v va vc sub sa sc :=
  ⟨h.ex, h.one, h.tot, h.hvc, h.hsc, h.hv.keep (fun b hlt => hb.block b hlt) (fun b hlt => Nat.lt_of_lt_of_le hlt hb.size), h.hsub.keep (fun b hlt => hb.block b hlt) (fun b hlt => Nat.lt_of_lt_of_le hlt hb.size)⟩

set_option maxRecDepth 100000 in
set_option maxHeartbeats 2000000 in
theorem stmt_do (W : Nat) (acc : List UInt8) (d : Nat) (ln : Int) (s : ByteArray) (k n : Int) (t : ByteArray) (v : VL) (va : Option Addr) (vc : Nat) (sub : NL) (sa : Option Addr) (sc : Nat) (ea : Nat → Addr) (w : World) (hsh : ShAt w ea) (hst : LnSt w W acc) (hd : d ≤ 5000) (ha : acc.length ≤ 100000000000000)
    (hnd : DoIn w ln s k n t v va vc sub sa sc) :
    Calls Tryd.prog 23 #[.pointer (some ⟨W, 0, none⟩), .int .i64 (d : Int), .agg #[.int .i64 40, .int .i64 ln, .string s, .int .i64 k, .int .i64 n, .string t, .slice va v.len vc, .slice sa sub.len sc]] w
      fun e w' => e = .returned (.tuple #[]) ∧ Below W w w' ∧ LnSt w' W (acc ++ lineT d (((ntx sub).getD 0 default).b ++ [59])) := by
  have hlt := hst.lt
  obtain ⟨wa, hwa⟩ : ∃ wa, wa = w.alloc (.cells #[.int .i64 40, .int .i64 ln, .string s, .int .i64 k, .int .i64 n, .string t, .slice va v.len vc, .slice sa sub.len sc] 29) := ⟨_, rfl⟩
  have hb : Below w.heap.size w wa := by rw [hwa]; exact (Below.refl _ _).alloc (Nat.le_refl _) _
  have hN1 : NdB wa w.heap.size (.int .i64 40) (.int .i64 ln) (.string s) (.int .i64 k) (.int .i64 n) (.string t) (.slice va v.len vc) (.slice sa sub.len sc) := by rw [hwa]; exact NdB.new _ _ _ _ _ _ _ _ _
  have v0 := hN1.c0; have v7 := hN1.c7
  rw [hwa] at v0 v7
  have hnda := hnd.below hb
  have hone := hnd.one
  obtain ⟨b, o, op', ln', s', k', n', t', v', sub', va', vc', sa', sc', hA, hSb, hd', c0, c1, c2, c3, c4, c5, c6, hvc', hv', c7, hsc', hs'⟩ := hnda.hsub.nth (i := 0) (by omega)
  have htd := NL.tot_drop 0 sub
  have hed := ExN.drop 0 sub hnd.ex
  rw [hd'] at htd hed
  simp only [NL.tot] at htd
  have hed1 : ExN (node1 op' ln' s' k' n' t' v' sub') := by
    obtain ⟨a1, a2, a3, a4, a5, a6, -⟩ := hed
    exact ⟨a1, a2, a3, a4, a5, a6, trivial⟩
  have h4 := hnd.tot
  have BC := Lib.hid (bare_c (sub'.tot + 1) op' ln' s' k' n' t' v' va' vc' sub' sa' sc' ea wa (by omega) (hsh.below hb) ⟨hed1, by omega, hvc', hsc', hv', hs'⟩)
  have hlen := (ex_len hed1 (by omega)).1
  have hx := ntx_at hd'
  obtain ⟨x, hxx⟩ : ∃ x, x = nodeT op' s' k' n' t' v' (ntx sub') := ⟨_, rfl⟩
  rw [← hxx] at BC hlen hx
  rw [hx]
  rw [← bs_size] at hlen
  rw [show o + 0 * 8 = o from by omega] at c0 c1 c2 c3 c4 c5 c6 c7
  have HLN := Lib.hid (show (bs x.b ++ ⟨#[59]⟩ : ByteArray).data.toList = x.b ++ [59] by simp [bs])
  have HLC := Lib.hid (fun W' (hW' : LnSt W' W acc) => line_c W acc d (bs x.b ++ ⟨#[59]⟩) W' hW' hd (by rw [ByteArray.size_append]; show (bs x.b).size + 1 ≤ _; omega) ha)
  have HST := Lib.hid (hst.below hb)
  have HB := Lib.hid hb
  have HWA := Lib.hid hwa
  have i0 : 0 < sub.len := by omega
  subst hA
  rw [hwa] at c0 c1 c2 c3 c4 c5 c6 c7
  clear hb hN1 hwa hsh hst hnd hnda htd hed hed1 hv' hs' hd' hx hxx hone
  go_enter Tryd.func23, Tryd.ntmps23
  go_wp2_with fail
  rw [← HWA.out]
  refine BC.out.mono ?_
  rintro e w2 ⟨rfl, hb2⟩
  have HST2 := Lib.hid (HST.out.below hb2)
  have HB2 := Lib.hid (show Below W w w2 from (below_le' HB.out (Nat.le_of_lt hlt)).trans (below_le' hb2 (by have := HB.out.size; omega)))
  clear hb2 c0 c1 c2 c3 c4 c5 c6 c7 v0 v7
  go_wp2_with fail
  refine (HLC.out w2 HST2.out).mono ?_
  rintro e w3 ⟨rfl, hb3, hst3⟩
  have HST3 := Lib.hid hst3
  rw [HLN.out] at HST3
  have HB3 := Lib.hid (HB2.out.trans hb3)
  clear hb3 hst3
  go_wp2_with fail
  go_end0
  exact ⟨rfl, HB3.out, HST3.out⟩
end Go.Proofs.YtocolgmfcjfjpaaDoor
namespace Go.Proofs.YtocolgmfcjfjpaaDoor
open Go.RowKit Go.Lib
set_option linter.unusedVariables false

set_option maxRecDepth 100000 in
set_option maxHeartbeats 2000000 in
theorem block_do (W : Nat) (acc : List UInt8) (d : Nat) (ln : Int) (s : ByteArray) (k n : Int) (t : ByteArray) (v : VL) (sub : NL) (A : Option Addr) (c : Nat) (ea : Nat → Addr) (w : World) (hsh : ShAt w ea) (hst : LnSt w W acc) (hd : d ≤ 5000) (ha : acc.length ≤ 100000000000000)
    (hex : ExN sub) (hone : sub.len = 1) (htot : sub.tot ≤ 4096) (hc : 1 ≤ c) (hrep : RpN w (fun b => b < w.heap.size) (node1 40 ln s k n t v sub) A) :
    Calls Tryd.prog 15 #[.pointer (some ⟨W, 0, none⟩), .int .i64 (d : Int), .slice A 1 c] w
      fun e w' => e = .returned (.tuple #[]) ∧ Below W w w' ∧ LnSt w' W (acc ++ lineT d (((ntx sub).getD 0 default).b ++ [59])) := by
  have hlt := hst.lt
  obtain ⟨b, o, va, vc, sa, sc, hA, hSb, c0, c1, c2, c3, c4, c5, c6, hvc, hv, c7, hsc, hs, -⟩ := hrep
  obtain ⟨wa, hwa⟩ : ∃ wa, wa = w.alloc (.cells #[.int .i64 40, .int .i64 ln, .string s, .int .i64 k, .int .i64 n, .string t, .slice va v.len vc, .slice sa sub.len sc] 29) := ⟨_, rfl⟩
  have hb : Below w.heap.size w wa := by rw [hwa]; exact (Below.refl _ _).alloc (Nat.le_refl _) _
  have hN1 : NdB wa w.heap.size (.int .i64 40) (.int .i64 ln) (.string s) (.int .i64 k) (.int .i64 n) (.string t) (.slice va v.len vc) (.slice sa sub.len sc) := by rw [hwa]; exact NdB.new _ _ _ _ _ _ _ _ _
  have v0 := hN1.c0; have v1 := hN1.c1; have v2 := hN1.c2; have v3 := hN1.c3; have v4 := hN1.c4; have v5 := hN1.c5; have v6 := hN1.c6; have v7 := hN1.c7
  rw [hwa] at v0 v1 v2 v3 v4 v5 v6 v7
  have SD := Lib.hid (stmt_do W acc d ln s k n t v va vc sub sa sc ea wa (hsh.below hb) (hst.below hb) hd ha
    ⟨hex, hone, htot, hvc, hsc, hv.keep (fun b hlt => hb.block b hlt) (fun b hlt => Nat.lt_of_lt_of_le hlt hb.size), hs.keep (fun b hlt => hb.block b hlt) (fun b hlt => Nat.lt_of_lt_of_le hlt hb.size)⟩)
  have HB := Lib.hid hb
  have HWA := Lib.hid hwa
  subst hA
  clear hb hN1 hwa hsh hst hv hs hone
  go_enter Tryd.func15, Tryd.ntmps15
  go_wp2_with fail
  go_loopg [10] 1 (fun kk v wr => ∃ (i : Nat), v = .int .i64 i ∧ i + kk = 1 ∧ (i = 0 → wr = w) ∧ (i = 1 → Hid (Below W w wr) ∧ Hid (LnSt wr W (acc ++ lineT d (((ntx sub).getD 0 default).b ++ [59])))))
  case atStart => exact ⟨0, rfl, rfl, fun _ => rfl, fun h => by omega⟩
  case round =>
    obtain ⟨i, rfl, hik, h0, h1⟩ := hrel
    by_cases hi : i = 0
    · obtain ⟨g, rfl⟩ : ∃ g, gk = g + 1 := ⟨gk - 1, by omega⟩
      have hw0 := h0 hi
      subst hw0
      subst hi
      clear h0 h1
      go_wp2_with fail
      rw [← HWA.out]
      refine SD.out.mono ?_
      rintro e w3 ⟨rfl, hb3, hst3⟩
      have HST3 := Lib.hid hst3
      have HB3 := Lib.hid ((below_le' HB.out (Nat.le_of_lt hlt)).trans hb3)
      clear hb3 hst3
      go_wp2_with fail
      go_roundg g
      case measure => omega
      case rel => exact ⟨1, by go_num, by omega, fun h => by omega, fun _ => ⟨HB3.out, HST3.out⟩⟩
    · obtain rfl : i = 1 := by omega
      obtain ⟨hb1, hs1⟩ := h1 rfl
      have HB1 := Lib.hid hb1.out
      have HS1 := Lib.hid hs1.out
      clear h0 h1 hb1 hs1
      go_wp2_with fail
      go_end0
      exact ⟨rfl, HB1.out, HS1.out⟩

/-- What was written, as a text. -/
theorem ln_text {w : World} {W : Nat} {acc : List UInt8} (h : LnSt w W acc) (hne : acc ≠ []) : ∃ g cap, w.cell? ⟨W, 0, none⟩ = some (.slice (some ⟨g, 0, none⟩) acc.length cap) ∧ (convert 45 9 (.slice (some ⟨g, 0, none⟩) acc.length cap)).run Tryd.prog w = .ok (.string (bs acc)) w := by
  obtain ⟨v, hW, ho⟩ := h
  rcases ho.2 with ⟨_, h0⟩ | ⟨g, cap, cur, hv, hbg, hh, hn, hcm, hcs, ht⟩
  · rw [bs_size] at h0
    exact absurd (List.eq_nil_of_length_eq_zero h0) hne
  · subst hv
    refine ⟨g, cap, cell_of_row w W 0 _ _ _ hW, ?_⟩
    refine run_convert_bytes_back w _ _ 5 ⟨g, 0, none⟩ cap acc Tryd.underlying45 Tryd.underlying5 Tryd.underlying9 (fun j hj => ?_)
    refine ho.cells (g := g) rfl j _ ?_
    show (strCells (bs acc))[j]? = _
    unfold strCells
    rw [List.getElem?_map]
    show (acc.toArray.toList[j]?).map _ = _
    rw [List.toList_toArray, List.getElem?_eq_getElem hj]; rfl

set_option maxRecDepth 100000 in
set_option maxHeartbeats 2000000 in
theorem program_do (ln : Int) (s : ByteArray) (k n : Int) (t : ByteArray) (v : VL) (sub : NL) (A : Option Addr) (c : Nat) (ea : Nat → Addr) (w : World) (hsh : ShAt w ea) (hfit : (node1 40 ln s k n t v sub).fit) (hex : ExN sub) (hone : sub.len = 1) (htot : sub.tot ≤ 4096) (hc : 1 ≤ c)
    (hrep : RpN w (fun b => b < w.heap.size) (node1 40 ln s k n t v sub) A) (hright : rightN (node1 40 ln s k n t v sub) 7 = true) :
    Calls Tryd.prog 11 #[.slice A 1 c] w fun e w' => e = .returned (.tuple #[.string (bs (lineT 0 (((ntx sub).getD 0 default).b ++ [59]))), .nilIface]) ∧ Below w.heap.size w w' := by
  have VC := Lib.hid (Valid_tc (node1 40 ln s k n t v sub) A c ea w hsh.err hfit (show 1 ≤ 140737488351232 by decide) hc hrep)
  have HRT := Lib.hid hright
  have HSH := Lib.hid hsh
  have HRP := Lib.hid hrep
  clear hright hsh hrep
  go_enter Tryd.func11, Tryd.ntmps11
  go_wp2_with fail
  refine VC.out.mono ?_
  intro e w2 hp
  obtain ⟨hb2, rfl⟩ := hp.right HRT.out
  obtain ⟨w3, hw3⟩ : ∃ w3, w3 = w2.alloc (.cells #[.slice none 0 0] 47) := ⟨_, rfl⟩
  have hb3 : Below w2.heap.size w2 w3 := by rw [hw3]; exact (Below.refl _ _).alloc (Nat.le_refl _) _
  have hb23 := hb2.trans (below_le' hb3 hb2.size)
  have hln : LnSt w3 w2.heap.size [] := ⟨.slice none 0 0, by rw [hw3]; exact heap_alloc_new w2 _, World.ownsRow_nil _ _ _ _⟩
  have BD := Lib.hid (block_do w2.heap.size [] 0 ln s k n t v sub A c ea w3 (HSH.out.below hb23) hln (by decide) (by decide) hex hone htot hc (HRP.out.keep (fun b hlt => hb23.block b hlt) (fun b hlt => Nat.lt_of_lt_of_le hlt hb23.size)))
  have HW3 := Lib.hid hw3
  have HB23 := Lib.hid hb23
  have hz2 := hb2.size
  have hz3 := hb3.size
  have HB2 := Lib.hid hb2
  have HB3 := Lib.hid hb3
  clear hp hb2 hw3 hb3 hb23 hln
  go_wp2_with fail
  rw [← HW3.out]
  refine BD.out.mono ?_
  rintro e w4 ⟨rfl, hb4, hst4⟩
  obtain ⟨g, cap, hcell, hconv⟩ := ln_text hst4 (by simp [lineT])
  have hlt4 := hst4.lt
  have HB4 := Lib.hid (HB2.out.trans (below_le' ((below_le' HB3.out (Nat.le_refl _)).trans hb4) hz2))
  rw [List.nil_append] at hcell hconv
  obtain ⟨txt, htxt⟩ : ∃ txt, txt = lineT 0 (((ntx sub).getD 0 default).b ++ [59]) := ⟨_, rfl⟩
  rw [← htxt] at hcell hconv
  have HTX := Lib.hid htxt
  clear hb4 hst4 htxt
  go_wp2_with fail
  go_ret2
  exact ⟨by rw [← HTX.out]; rfl, HB4.out⟩
end Go.Proofs.YtocolgmfcjfjpaaDoor
