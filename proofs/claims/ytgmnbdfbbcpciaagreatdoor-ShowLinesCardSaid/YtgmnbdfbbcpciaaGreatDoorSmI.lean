/- Contracts of the functions that the statement reaches, and the plain mathematics beneath: several texts joined. -/
import Derived.Test.YtgmnbdfbbcpciaaGreatDoorSmH
import Derived.Test.YtgmnbdfbbcpciaaGreatDoorSmE
import Derived.Test.YtgmnbdfbbcpciaaGreatDoorSmG
import Derived.Test.YtgmnbdfbbcpciaaGreatDoorSmA
import Derived.Test.YtgmnbdfbbcpciaaGreatDoorSmB
import Derived.Test.YtgmnbdfbbcpciaaGreatDoorSmC
import Derived.Test.YtgmnbdfbbcpciaaGreatDoorSmD
import Derived.Test.YtgmnbdfbbcpciaaGreatDoorSmF
namespace Go.Proofs.YtgmnbdfbbcpciaaGreatDoor
open Go.RowKit Go.Lib
set_option linter.unusedVariables false

set_option maxRecDepth 100000 in
set_option maxHeartbeats 4000000 in
theorem stmt_51 {N : Nat} (hB : BlockC N) (hA : AroundC N) (ln : Int) (s : ByteArray) (k n : Int) (t : ByteArray) (v : VL) (va : Option Addr) (vc : Nat) (sub : NL) (sa : Option Addr) (sc : Nat) (loop : Bool) (d W : Nat) (acc : List UInt8) (ea : Nat → Addr) (w : World)
    (hN : sub.tot ≤ N + 1) (hsh : ShAt w ea) (hst : LnSt w W acc) (hW : 10 < W) (hbig : Big acc (1 + sub.tot)) (hin : SdIn w W 51 ln s k n t v va vc sub sa sc 7 loop d) :
    Calls Tryz.prog 19 #[.pointer (some ⟨W, 0, none⟩), .int .i64 (d : Int), .agg #[.int .i64 51, .int .i64 ln, .string s, .int .i64 k, .int .i64 n, .string t, .slice va v.len vc, .slice sa sub.len sc]] w
      fun e w' => e = .returned (.tuple #[]) ∧ Keep w w' W ∧ LnSt w' W (acc ++ stmtT d 51 s.data.toList (stx sub d)) := by
  have hlt := hst.lt
  have hm : sub.len = 2 := by have h := (ownN_zero hin.own).2.1; simpa [rolesP] using h
  obtain ⟨wa, hwa⟩ : ∃ wa, wa = w.alloc (.cells #[.int .i64 51, .int .i64 ln, .string s, .int .i64 k, .int .i64 n, .string t, .slice va v.len vc, .slice sa 2 sc] 33) := ⟨_, rfl⟩
  have hb : Below w.heap.size w wa := by rw [hwa]; exact (Below.refl _ _).alloc (Nat.le_refl _) _
  have hN1 : NdB wa w.heap.size (.int .i64 51) (.int .i64 ln) (.string s) (.int .i64 k) (.int .i64 n) (.string t) (.slice va v.len vc) (.slice sa 2 sc) := by rw [hwa]; exact NdB.new _ _ _ _ _ _ _ _ _
  have z0 := hN1.c0; have z7 := hN1.c7
  rw [hwa] at z0 z7
  have hbW := below_le' hb (Nat.le_of_lt hlt)
  have hina := hin.below hbW
  have hsta := hst.below hb
  have hsha := hsh.below hb
  have hWa : W < wa.heap.size := hsta.lt
  obtain ⟨b, o, op0, ln0, s0, k0, n0, t0, v0', sub0, va0, vc0, sa0, sc0, hA0, hS0, hd0, a00, a01, a02, a03, a04, a05, a06, hvc0, hv0, a07, hsc0, hs0⟩ := hina.hsub.nth (i := 0) (by omega)
  obtain ⟨b1, o1, op1, ln1, s1, k1, n1, t1, v1', sub1, va1, vc1, sa1, sc1, hA1, hS1, hd1, a10, a11, a12, a13, a14, a15, a16, hvc1, hv1, a17, hsc1, hs1⟩ := hina.hsub.nth (i := 1) (by omega)
  rw [hA0] at hA1
  injection hA1 with hA1
  injection hA1 with e1a e1b
  subst e1a
  subst e1b
  obtain ⟨p0, q0⟩ := walk_kid sub _ 0 0 hin.walk (by omega) op0 ln0 s0 k0 n0 t0 v0' sub0 hd0
  have r0 : (subRole 51 sub.len 7 loop (0 + 0)).1 = 6 := by rw [hm]; rfl
  rw [r0] at p0 q0
  obtain ⟨f0, g0, m0⟩ := fit_kid hin.fit.2.2.2.2.2.1 hin.i64.2.1 hd0
  have hop0 : op0 = 52 := block_op (ownN_zero p0).1
  subst hop0
  obtain ⟨p1, q1⟩ := walk_kid sub _ 0 1 hin.walk (by omega) op1 ln1 s1 k1 n1 t1 v1' sub1 hd1
  have r1 : (subRole 51 sub.len 7 loop (0 + 1)).1 = 6 := by rw [hm]; rfl
  rw [r1] at p1 q1
  obtain ⟨f1, g1, m1⟩ := fit_kid hin.fit.2.2.2.2.2.1 hin.i64.2.1 hd1
  have hop1 : op1 = 52 := block_op (ownN_zero p1).1
  subst hop1
  have ht4 := hin.tot
  have hdp := hin.dep
  have htot : sub.tot = (1 + sub0.tot) + ((1 + sub1.tot) + 0) := by
    have h0 : sub = .cons 52 ln0 s0 k0 n0 t0 v0' sub0 (sub.drop 1) := by
      have h := hd0
      rw [NL.drop] at h; exact h
    have hl : sub.drop 2 = .nil := by
      have hl := NL.len_drop 2 sub
      cases hq : sub.drop 2 with
      | nil => rfl
      | cons => rw [hq] at hl; simp only [NL.len] at hl; omega
    rw [h0, hd1, hl]; rfl
  have sd0 : SdIn wa W 52 ln0 s0 k0 n0 t0 v0' va0 vc0 sub0 sa0 sc0 6 (subRole 51 sub.len 7 loop (0 + 0)).2 d := ⟨p0, q0, f0, g0, by omega, by omega, hvc0, hsc0, hv0, hs0⟩
  have hx0 := stx_at d hd0
  have sd1 : SdIn wa W 52 ln1 s1 k1 n1 t1 v1' va1 vc1 sub1 sa1 sc1 6 (subRole 51 sub.len 7 loop (0 + 1)).2 d := ⟨p1, q1, f1, g1, by omega, by omega, hvc1, hsc1, hv1, hs1⟩
  have hx1 := stx_at d hd1
  have hw7 := block_walk sd0.walk
  have HT : stmtT d 51 s.data.toList (stx sub d) = (lineT d [116, 114, 121] ++ stsT sub0 (d + 1)) ++ aroundT d (⟨#[102, 105, 110, 97, 108, 108, 121]⟩ : ByteArray).data.toList (stsT sub1 (d + 1)) (⟨#[101, 110, 100, 116, 114, 121]⟩ : ByteArray).data.toList := by
    show (lineT d [116, 114, 121] ++ ((stx sub d).getD 0 default).bk) ++ aroundT d [102, 105, 110, 97, 108, 108, 121] ((stx sub d).getD 1 default).bk [101, 110, 100, 116, 114, 121] = _
    rw [hx0, hx1]
    rfl
  have hl0 : (lineT d [116, 114, 121]).length ≤ 100000 := by rw [lineT_len]; show 2 * d + 3 + 1 ≤ _; omega
  have hl1 := stsT_len sub0 _ (d + 1) (by omega) (by omega) f0.2.2.2.2.2.1 g0.2.1 hw7
  have hbg : acc.length + 10000000000 * (1 + sub.tot) ≤ 100000000000000 := hbig
  have LC := Lib.hid (line_k W acc d ⟨#[116, 114, 121]⟩ wa hsta (by omega) (by decide) (by omega))
  have BC := Lib.hid (fun W' (hW' : Below W wa W') (hs' : LnSt W' W (acc ++ lineT d [116, 114, 121])) => hB sub0 sa0 sc0 _ (d + 1) W (acc ++ lineT d [116, 114, 121]) ea W' (by omega) (hsha.belowW hW' hW) hs' hW (by unfold Big; rw [List.length_append]; omega) (by omega) (by omega) f0.2.2.2.2.2.1 g0.2.1 hsc0 hw7 (sd0.below hW').hsub)
  have AC := Lib.hid (fun W' (hW' : Below W wa W') (hs' : LnSt W' W ((acc ++ lineT d [116, 114, 121]) ++ stsT sub0 (d + 1))) => hA ⟨#[102, 105, 110, 97, 108, 108, 121]⟩ ⟨#[101, 110, 100, 116, 114, 121]⟩ ln1 s1 k1 n1 t1 v1' va1 vc1 sub1 sa1 sc1 _ d W ((acc ++ lineT d [116, 114, 121]) ++ stsT sub0 (d + 1)) ea W' (by omega) (hsha.belowW hW' hW) hs' hW (by unfold Big; rw [List.length_append, List.length_append]; omega) (by decide) (by decide) (by omega) (sd1.below hW'))
  rw [show (((d + 1 : Nat) : Int)) = (d : Int) + 1 from by omega] at BC
  have e1 : IntKind.i64.wrap ((d : Int) + 1) = (d : Int) + 1 := IntWalk.i64_in _ (by omega)
  have HK := Lib.hid (Keep.of_below hb hlt)
  have HSTA := Lib.hid hsta
  have HWA := Lib.hid hwa
  have hc7 := a07
  rw [hm]
  subst hA0
  have X := Lib.hid (And.intro (And.intro a00 (And.intro a01 (And.intro a02 (And.intro a03 (And.intro a04 (And.intro a05 (And.intro a06 a07))))))) (And.intro a10 (And.intro a11 (And.intro a12 (And.intro a13 (And.intro a14 (And.intro a15 (And.intro a16 a17))))))))
  have HS0 := Lib.hid hS0
  clear hb hN1 hwa hsh hst hsta hsha hin hina hbW hbg hbig hl0 hl1 hdp hA hB hN hm htot sd0 sd1 hw7 hc7 hv0 hs0 hd0 p0 q0 r0 f0 g0 m0 hx0 hv1 hs1 hd1 p1 q1 r1 f1 g1 m1 hx1 a00 a01 a02 a03 a04 a05 a06 a07 a10 a11 a12 a13 a14 a15 a16 a17
  go_enter Tryz.func19, Tryz.ntmps19
  go_wp2_with fail
  rw [← HWA.out]
  refine LC.out.mono ?_
  rintro e w1 ⟨rfl, hk1, hs1⟩
  have HBW1 := Lib.hid (hk1.belowW HSTA.out)
  have y00p := (HBW1.out.cell (p := ⟨b, o + 0 * 8, none⟩) HS0.out).trans X.out.1.1
  have y01p := (HBW1.out.cell (p := ⟨b, o + 0 * 8 + 1, none⟩) HS0.out).trans X.out.1.2.1
  have y02p := (HBW1.out.cell (p := ⟨b, o + 0 * 8 + 2, none⟩) HS0.out).trans X.out.1.2.2.1
  have y03p := (HBW1.out.cell (p := ⟨b, o + 0 * 8 + 3, none⟩) HS0.out).trans X.out.1.2.2.2.1
  have y04p := (HBW1.out.cell (p := ⟨b, o + 0 * 8 + 4, none⟩) HS0.out).trans X.out.1.2.2.2.2.1
  have y05p := (HBW1.out.cell (p := ⟨b, o + 0 * 8 + 5, none⟩) HS0.out).trans X.out.1.2.2.2.2.2.1
  have y06p := (HBW1.out.cell (p := ⟨b, o + 0 * 8 + 6, none⟩) HS0.out).trans X.out.1.2.2.2.2.2.2.1
  have y07p := (HBW1.out.cell (p := ⟨b, o + 0 * 8 + 7, none⟩) HS0.out).trans X.out.1.2.2.2.2.2.2.2
  have y10p := (HBW1.out.cell (p := ⟨b, o + 1 * 8, none⟩) HS0.out).trans X.out.2.1
  have y11p := (HBW1.out.cell (p := ⟨b, o + 1 * 8 + 1, none⟩) HS0.out).trans X.out.2.2.1
  have y12p := (HBW1.out.cell (p := ⟨b, o + 1 * 8 + 2, none⟩) HS0.out).trans X.out.2.2.2.1
  have y13p := (HBW1.out.cell (p := ⟨b, o + 1 * 8 + 3, none⟩) HS0.out).trans X.out.2.2.2.2.1
  have y14p := (HBW1.out.cell (p := ⟨b, o + 1 * 8 + 4, none⟩) HS0.out).trans X.out.2.2.2.2.2.1
  have y15p := (HBW1.out.cell (p := ⟨b, o + 1 * 8 + 5, none⟩) HS0.out).trans X.out.2.2.2.2.2.2.1
  have y16p := (HBW1.out.cell (p := ⟨b, o + 1 * 8 + 6, none⟩) HS0.out).trans X.out.2.2.2.2.2.2.2.1
  have y17p := (HBW1.out.cell (p := ⟨b, o + 1 * 8 + 7, none⟩) HS0.out).trans X.out.2.2.2.2.2.2.2.2
  rw [show o + 0 * 8 = o from by omega] at y00p y01p y02p y03p y04p y05p y06p y07p
  have HS1 := Lib.hid hs1
  have HK1 := Lib.hid (HK.out.trans hk1)
  clear hk1 hs1
  go_wp2_with fail
  refine (BC.out w1 HBW1.out HS1.out).mono ?_
  rintro e w2 ⟨rfl, hk2, hs2⟩
  have HBW2 := Lib.hid (HBW1.out.trans (hk2.belowW HS1.out))
  have y00q := (HBW2.out.cell (p := ⟨b, o + 0 * 8, none⟩) HS0.out).trans X.out.1.1
  have y01q := (HBW2.out.cell (p := ⟨b, o + 0 * 8 + 1, none⟩) HS0.out).trans X.out.1.2.1
  have y02q := (HBW2.out.cell (p := ⟨b, o + 0 * 8 + 2, none⟩) HS0.out).trans X.out.1.2.2.1
  have y03q := (HBW2.out.cell (p := ⟨b, o + 0 * 8 + 3, none⟩) HS0.out).trans X.out.1.2.2.2.1
  have y04q := (HBW2.out.cell (p := ⟨b, o + 0 * 8 + 4, none⟩) HS0.out).trans X.out.1.2.2.2.2.1
  have y05q := (HBW2.out.cell (p := ⟨b, o + 0 * 8 + 5, none⟩) HS0.out).trans X.out.1.2.2.2.2.2.1
  have y06q := (HBW2.out.cell (p := ⟨b, o + 0 * 8 + 6, none⟩) HS0.out).trans X.out.1.2.2.2.2.2.2.1
  have y07q := (HBW2.out.cell (p := ⟨b, o + 0 * 8 + 7, none⟩) HS0.out).trans X.out.1.2.2.2.2.2.2.2
  have y10q := (HBW2.out.cell (p := ⟨b, o + 1 * 8, none⟩) HS0.out).trans X.out.2.1
  have y11q := (HBW2.out.cell (p := ⟨b, o + 1 * 8 + 1, none⟩) HS0.out).trans X.out.2.2.1
  have y12q := (HBW2.out.cell (p := ⟨b, o + 1 * 8 + 2, none⟩) HS0.out).trans X.out.2.2.2.1
  have y13q := (HBW2.out.cell (p := ⟨b, o + 1 * 8 + 3, none⟩) HS0.out).trans X.out.2.2.2.2.1
  have y14q := (HBW2.out.cell (p := ⟨b, o + 1 * 8 + 4, none⟩) HS0.out).trans X.out.2.2.2.2.2.1
  have y15q := (HBW2.out.cell (p := ⟨b, o + 1 * 8 + 5, none⟩) HS0.out).trans X.out.2.2.2.2.2.2.1
  have y16q := (HBW2.out.cell (p := ⟨b, o + 1 * 8 + 6, none⟩) HS0.out).trans X.out.2.2.2.2.2.2.2.1
  have y17q := (HBW2.out.cell (p := ⟨b, o + 1 * 8 + 7, none⟩) HS0.out).trans X.out.2.2.2.2.2.2.2.2
  rw [show o + 0 * 8 = o from by omega] at y00q y01q y02q y03q y04q y05q y06q y07q
  have HS2 := Lib.hid hs2
  have HK2 := Lib.hid (HK1.out.trans hk2)
  clear hk2 hs2 y00p y01p y02p y03p y04p y05p y06p y07p y10p y11p y12p y13p y14p y15p y16p y17p
  go_wp2_with fail
  refine (AC.out w2 HBW2.out HS2.out).mono ?_
  rintro e w3 ⟨rfl, hk3, hs3⟩
  have HS3 := Lib.hid hs3
  have HK3 := Lib.hid (HK2.out.trans hk3)
  clear hk3 hs3
  go_wp2_with fail
  go_end0
  exact ⟨rfl, HK3.out, by
    rw [HT]
    have h := HS3.out
    simpa [List.append_assoc] using h⟩
end Go.Proofs.YtgmnbdfbbcpciaaGreatDoor
namespace Go.Proofs.YtgmnbdfbbcpciaaGreatDoor
open Go.RowKit Go.Lib
set_option linter.unusedVariables false

/-- Two nodes of a list, and what is behind them, as text. -/
theorem stx_two {l : NL} {i d : Nat} {op0 ln0 : Int} {s0 : ByteArray} {k0 n0 : Int} {t0 : ByteArray} {v0 : VL} {sub0 : NL} {op1 ln1 : Int} {s1 : ByteArray} {k1 n1 : Int} {t1 : ByteArray} {v1 : VL} {sub1 : NL}
    (hd0 : l.drop i = .cons op0 ln0 s0 k0 n0 t0 v0 sub0 (l.drop (i + 1))) (hd1 : l.drop (i + 1) = .cons op1 ln1 s1 k1 n1 t1 v1 sub1 (l.drop (i + 2))) :
    (stx l d).drop i = itm op0 s0 k0 n0 t0 v0 sub0 d :: itm op1 s1 k1 n1 t1 v1 sub1 d :: (stx l d).drop (i + 2) := by
  rw [stx_drop, stx_drop, hd0, hd1, stx, stx]; rfl
theorem stx_one {l : NL} {i d : Nat} {op0 ln0 : Int} {s0 : ByteArray} {k0 n0 : Int} {t0 : ByteArray} {v0 : VL} {sub0 : NL}
    (hd0 : l.drop i = .cons op0 ln0 s0 k0 n0 t0 v0 sub0 (l.drop (i + 1))) (hl : l.len = i + 1) :
    (stx l d).drop i = [itm op0 s0 k0 n0 t0 v0 sub0 d] := by
  have h : l.drop (i + 1) = .nil := by rw [← hl]; exact NL.drop_len l
  rw [stx_drop, hd0, stx, h]; rfl
theorem stx_none {l : NL} {i d : Nat} (hl : l.len = i) : (stx l d).drop i = [] := by
  subst hl
  rw [stx_drop, NL.drop_len]; rfl

/-- What a call of ifs is to show. -/
def IfsC (N : Nat) : Prop := ∀ (l : NL) (A : Option Addr) (c : Nat) (loop : Bool) (d W : Nat) (acc : List UInt8) (ea : Nat → Addr) (w : World),
  l.tot ≤ N + 1 → ShAt w ea → LnSt w W acc → 10 < W → Big acc (1 + l.tot) → l.tot ≤ 4096 → d + l.tot ≤ 5000 → l.fit → l.i64 → l.len ≤ c → 2 ≤ l.len → walkN l (subRole 41 l.len 7 loop) 0 = none → RpN w (fun b => b < W) l A →
  Calls Tryz.prog 34 #[.pointer (some ⟨W, 0, none⟩), .int .i64 (d : Int), .slice A l.len c] w
    fun e w' => e = .returned (.tuple #[]) ∧ Keep w w' W ∧ LnSt w' W (acc ++ ifsT d [105, 102] (stx l d))

set_option maxRecDepth 100000 in
set_option maxHeartbeats 8000000 in
theorem ifs_of {N : Nat} (hB : BlockC N) : IfsC N := by
  intro l A c loop d W acc ea w hN hsh hst hW hbig h4 hd hfit h64 hc h2 hwalk hrep
  have hlt := hst.lt
  have hlen := NL.len_tot l
  obtain ⟨b, o, hA⟩ : ∃ b o, A = some ⟨b, o, none⟩ := by
    obtain ⟨b, o, -, -, -, -, -, -, -, -, -, -, -, -, hA, -⟩ := hrep.nth (i := 0) (by omega)
    exact ⟨b, o, hA⟩
  have HRP := Lib.hid hrep
  have HSH := Lib.hid hsh
  have HST := Lib.hid hst
  have HBG := Lib.hid hbig
  have HW := Lib.hid hwalk
  have HA := Lib.hid hA
  have HB := Lib.hid hB
  have e1 : IntKind.i64.wrap ((d : Int) + 1) = (d : Int) + 1 := IntWalk.i64_in _ (by omega)
  clear hrep hsh hst hbig hwalk hB
  go_enter Tryz.func34, Tryz.ntmps34
  go_wp2_with fail
  go_loopg [2, 6] (l.len / 2) (fun kk v v6 wr => ∃ (i : Nat) (wd : ByteArray) (pre : List UInt8) (A' : Option Addr) (c' : Nat), v = .slice A' (l.len - 2 * i) c' ∧ v6 = .string wd ∧ i + kk = l.len / 2 ∧ 2 * i ≤ l.len ∧ wd.size ≤ 6 ∧ l.len - 2 * i ≤ c' ∧
    Hid (Keep w wr W) ∧ Hid (LnSt wr W (acc ++ pre)) ∧ Hid (pre ++ ifsT d wd.data.toList ((stx l d).drop (2 * i)) = ifsT d [105, 102] (stx l d)) ∧ Hid (pre.length + 10000000000 * (l.drop (2 * i)).tot ≤ 10000000000 * l.tot) ∧ Hid (2 * i < l.len → A' = some ⟨b, o + 2 * i * 8, none⟩))
  case atStart =>
    exact ⟨0, ⟨#[105, 102]⟩, [], A, c, rfl, rfl, by omega, by omega, by decide, by omega, Keep.of_below (Below.refl _ _) hlt, by show LnSt w W (acc ++ []); rw [List.append_nil]; exact HST.out, rfl, by show 0 + 10000000000 * (l.drop 0).tot ≤ _; rw [NL.drop]; omega, fun _ => by rw [HA.out]; simp⟩
  case round =>
    obtain ⟨i, wd, pre, A', c', rfl, rfl, hik, hi2, hwd, hcc, hkr, hsr, htx, hpl, hap⟩ := hrel
    have hbr := Lib.hid (hkr.out.belowW HST.out)
    have hltr := hsr.out.lt
    have hts := tot_split (2 * i) l
    by_cases hm : l.len - 2 * i > 1
    · obtain ⟨g, rfl⟩ : ∃ g, gk = g + 1 := ⟨gk - 1, by omega⟩
      have hA' := hap.out (by omega)
      obtain ⟨b0, o0, op0, ln0, s0, k0, n0, t0, v0', sub0, va0, vc0, sa0, sc0, hA0, hS0, hd0, a00, a01, a02, a03, a04, a05, a06, hvc0, hv0, a07, hsc0, hs0⟩ := (HRP.out.below hbr.out (fun b hb => hb)).nth (i := 2 * i) (by omega)
      obtain ⟨b1, o1, op1, ln1, s1, k1, n1, t1, v1', sub1, va1, vc1, sa1, sc1, hA1, hS1, hd1, a10, a11, a12, a13, a14, a15, a16, hvc1, hv1, a17, hsc1, hs1⟩ := (HRP.out.below hbr.out (fun b hb => hb)).nth (i := 2 * i + 1) (by omega)
      rw [HA.out] at hA0 hA1
      injection hA0 with hA0
      injection hA0 with ea0 eb0
      subst ea0
      subst eb0
      injection hA1 with hA1
      injection hA1 with ea1 eb1
      subst ea1
      subst eb1
      obtain ⟨p0, q0⟩ := walk_kid l _ 0 (2 * i) HW.out (by omega) op0 ln0 s0 k0 n0 t0 v0' sub0 hd0
      obtain ⟨p1, q1⟩ := walk_kid l _ 0 (2 * i + 1) HW.out (by omega) op1 ln1 s1 k1 n1 t1 v1' sub1 hd1
      have r0 : (subRole 41 l.len 7 loop (0 + 2 * i)).1 = 0 := by rw [Nat.zero_add, sub7, rng41 _ _ (by omega), if_neg (by omega), if_pos (by omega)]
      have r1 : (subRole 41 l.len 7 loop (0 + (2 * i + 1))).1 = 6 := by rw [Nat.zero_add, sub7, rng41 _ _ (by omega)]; split; rfl; rw [if_neg (by omega)]
      rw [r0] at p0 q0
      rw [r1] at p1 q1
      obtain ⟨f0, g0, m0⟩ := fit_kid hfit h64 hd0
      obtain ⟨f1, g1, m1⟩ := fit_kid hfit h64 hd1
      have hop1 : op1 = 52 := block_op (ownN_zero p1).1
      subst hop1
      have htd : (l.drop (2 * i)).tot = 1 + sub0.tot + (1 + sub1.tot + (l.drop (2 * i + 2)).tot) := by rw [hd0, NL.tot, hd1]; rfl
      have sd0 : SdIn wr W op0 ln0 s0 k0 n0 t0 v0' va0 vc0 sub0 sa0 sc0 0 (subRole 41 l.len 7 loop (0 + 2 * i)).2 d := ⟨p0, q0, f0, g0, by omega, by omega, hvc0, hsc0, hv0, hs0⟩
      have in0 := sd0.nd (by decide) (Nat.le_of_lt hltr)
      have sd1 : SdIn wr W 52 ln1 s1 k1 n1 t1 v1' va1 vc1 sub1 sa1 sc1 6 (subRole 41 l.len 7 loop (0 + (2 * i + 1))).2 d := ⟨p1, q1, f1, g1, by omega, by omega, hvc1, hsc1, hv1, hs1⟩
      have hw7 := block_walk sd1.walk
      have hst2 := stx_two (d := d) hd0 hd1
      obtain ⟨x0, hxx⟩ : ∃ x, x = nodeT op0 s0 k0 n0 t0 v0' (ntx sub0) := ⟨_, rfl⟩
      have hlen0 := (ex_len in0.ex in0.tot).1
      rw [← hxx, ← bs_size] at hlen0
      obtain ⟨hd_, hhd⟩ : ∃ h : ByteArray, h = wd ++ ⟨#[32, 40]⟩ ++ bs x0.b ++ ⟨#[41]⟩ := ⟨_, rfl⟩
      have hhs : hd_.size ≤ 1000000000 := by
        rw [hhd, ByteArray.size_append, ByteArray.size_append, ByteArray.size_append]
        have e1 : (⟨#[32, 40]⟩ : ByteArray).size = 2 := rfl
        have e2 : (⟨#[41]⟩ : ByteArray).size = 1 := rfl
        omega
      have hhl : hd_.data.toList = wd.data.toList ++ [32, 40] ++ x0.b ++ [41] := by rw [hhd]; simp [bs]
      have hhn : hd_.data.toList.length = hd_.size := by rw [Array.length_toList]; rfl
      have hTX : (pre ++ (lineT d hd_.data.toList ++ stsT sub1 (d + 1))) ++ ifsT d [101, 108, 115, 101, 105, 102] ((stx l d).drop (2 * (i + 1))) = ifsT d [105, 102] (stx l d) := by
        rw [← htx.out, hst2, ifsT, hhl, hxx, show 2 * (i + 1) = 2 * i + 2 from by omega]
        simp only [List.append_assoc]
        rfl
      have hl1 := stsT_len sub1 _ (d + 1) (by omega) (by omega) f1.2.2.2.2.2.1 g1.2.1 hw7
      have hbg : acc.length + 10000000000 * (1 + l.tot) ≤ 100000000000000 := HBG.out
      have hpl' := hpl.out
      rw [htd] at hpl'
      have hline : (lineT d hd_.data.toList).length ≤ 1000100000 := by rw [lineT_len]; omega
      have hPL : (pre ++ (lineT d hd_.data.toList ++ stsT sub1 (d + 1))).length + 10000000000 * (l.drop (2 * (i + 1))).tot ≤ 10000000000 * l.tot := by
        rw [List.length_append, List.length_append, show 2 * (i + 1) = 2 * i + 2 from by omega]; omega
      have hshr := HSH.out.belowW hbr.out hW
      have BC := Lib.hid (bare_c (sub0.tot + 1) op0 ln0 s0 k0 n0 t0 v0' va0 vc0 sub0 sa0 sc0 ea wr (by omega) hshr in0)
      rw [← hxx] at BC
      have LC := Lib.hid (fun W' (hs' : LnSt W' W (acc ++ pre)) => line_k W (acc ++ pre) d hd_ W' hs' (by omega) (by omega) (by rw [List.length_append]; omega))
      have SC := Lib.hid (fun W' (hW' : Below W wr W') (hs' : LnSt W' W ((acc ++ pre) ++ lineT d hd_.data.toList)) => HB.out sub1 sa1 sc1 _ (d + 1) W ((acc ++ pre) ++ lineT d hd_.data.toList) ea W' (by omega) (hshr.belowW hW' hW) hs' hW (by unfold Big; rw [List.length_append, List.length_append]; omega) (by omega) (by omega) f1.2.2.2.2.2.1 g1.2.1 hsc1 hw7 (sd1.below hW').hsub)
      rw [show (((d + 1 : Nat) : Int)) = (d : Int) + 1 from by omega] at SC
      obtain ⟨q, hq⟩ : ∃ q, q = o + 2 * i * 8 := ⟨_, rfl⟩
      rw [show o + 2 * i * 8 = q from hq.symm] at a00 a01 a02 a03 a04 a05 a06 a07 hA'
      rw [show o + (2 * i + 1) * 8 = q + 8 from by omega] at a10 a11 a12 a13 a14 a15 a16 a17
      subst hA'
      have h63a : ¬ (9223372036854775807 < wd.size + 2) := by omega
      have h63b : ¬ (9223372036854775807 < wd.size + 2 + (bs x0.b).size) := by omega
      have h63c : ¬ (9223372036854775807 < wd.size + 2 + (bs x0.b).size + 1) := by omega
      have HTX := Lib.hid hTX
      have HPL := Lib.hid hPL
      have HHD := Lib.hid hhd
      have HKR := Lib.hid hkr.out
      have HSR := Lib.hid hsr.out
      have H17 := Lib.hid a17
      have HBK := Lib.hid hS1
      have lm : (1 : Int) < ((l.len - 2 * i : Nat) : Int) := by omega
      have l0 : 0 < l.len - 2 * i := by omega
      have l1 : 1 < l.len - 2 * i := by omega
      have l2 : 2 ≤ l.len - 2 * i := by omega
      have l3 : (2 : Int) ≤ ((l.len - 2 * i : Nat) : Int) := by omega
      have HQ := Lib.hid (show l.len - 2 * i - 2 = l.len - 2 * (i + 1) by omega)
      have HO := Lib.hid hq
      clear hkr hbr hsr htx hpl hap hTX hPL hbg hpl' htd sd0 sd1 in0 hw7 hst2 hxx hlen0 hhl hhn hl1 hline hshr p0 q0 p1 q1 r0 r1 f0 g0 m0 f1 g1 m1 hd0 hd1 hv0 hs0 hv1 hs1 hq hm hhd
      go_wp2_with fail
      refine BC.out.mono ?_
      rintro e w2 ⟨rfl, hb2⟩
      have HB2 := Lib.hid hb2
      have HS2 := Lib.hid (HSR.out.below hb2)
      have HK2 := Lib.hid (HKR.out.trans (Keep.of_below hb2 hltr))
      have HBW2 := Lib.hid (below_le' hb2 (Nat.le_of_lt hltr))
      clear hb2 a00 a01 a02 a03 a04 a05 a06 a07 a10 a11 a12 a13 a14 a15 a16 a17
      go_wp2_with fail
      rw [← HHD.out]
      refine (LC.out w2 HS2.out).mono ?_
      rintro e w3 ⟨rfl, hk3, hs3⟩
      have HBW3 := Lib.hid (HBW2.out.trans (hk3.belowW HS2.out))
      have y17 := (HBW3.out.cell (p := ⟨b, q + 8 + 7, none⟩) HBK.out).trans H17.out
      have HS3 := Lib.hid hs3
      have HK3 := Lib.hid (HK2.out.trans hk3)
      clear hk3 hs3
      go_wp2_with fail
      refine (SC.out w3 HBW3.out HS3.out).mono ?_
      rintro e w4 ⟨rfl, hk4, hs4⟩
      have HS4 := Lib.hid hs4
      have HK4 := Lib.hid (HK3.out.trans hk4)
      clear hk4 hs4 y17
      go_wp2_with fail
      have HSQ := Lib.hid (fun nq => show LnSt (w4.drewN nq) W (acc ++ (pre ++ (lineT d hd_.data.toList ++ stsT sub1 (d + 1)))) from by
        have h := HS4.out
        simp only [List.append_assoc] at h ⊢
        exact h)
      have HKQ := Lib.hid (fun nq => show Keep w (w4.drewN nq) W from HK4.out.trans (Keep.of_below (show Below w4.heap.size w4 (w4.drewN nq) from ⟨rfl, rfl, rfl, Nat.le_refl _, fun _ _ => rfl⟩) HS4.out.lt))
      by_cases hc2 : c' = 2
      · subst hc2
        go_quiet (fail)
        go_wp2_with fail
        go_roundg g
        case measure => omega
        case rel => exact ⟨i + 1, ⟨#[101, 108, 115, 101, 105, 102]⟩, pre ++ (lineT d hd_.data.toList ++ stsT sub1 (d + 1)), _, _, by rw [show l.len - 2 * (i + 1) = 0 from by omega], rfl, by omega, by omega, by decide, by omega, HKQ.out _, HSQ.out _, HTX.out, HPL.out, fun h => by omega⟩
      · have hq2 : ¬ (((c' : Int) - 2) = 0) := by omega
        go_quiet (fail)
        go_wp2_with fail
        go_roundg g
        case measure => omega
        case rel => exact ⟨i + 1, ⟨#[101, 108, 115, 101, 105, 102]⟩, pre ++ (lineT d hd_.data.toList ++ stsT sub1 (d + 1)), _, _, by rw [← HQ.out], rfl, by omega, by omega, by decide, by omega, HKQ.out _, HSQ.out _, HTX.out, HPL.out, fun h => by rw [HO.out, show o + 2 * (i + 1) * 8 = o + 2 * i * 8 + 16 from by omega]⟩
    · have hbg : acc.length + 10000000000 * (1 + l.tot) ≤ 100000000000000 := HBG.out
      have hpl' := hpl.out
      by_cases h0 : l.len - 2 * i = 0
      · have hst0 := stx_none (l := l) (i := 2 * i) (d := d) (by omega)
        have hTX : pre ++ lineT d (⟨#[101, 110, 100, 105, 102]⟩ : ByteArray).data.toList = ifsT d [105, 102] (stx l d) := by rw [← htx.out, hst0]; rfl
        have LC := Lib.hid (line_k W (acc ++ pre) d ⟨#[101, 110, 100, 105, 102]⟩ wr hsr.out (by omega) (by decide) (by rw [List.length_append]; omega))
        rw [List.append_assoc, hTX] at LC
        have HKR := Lib.hid hkr.out
        clear hkr hbr hsr htx hpl hap hTX hbg hpl' hst0
        rw [h0]
        clear hm h0
        go_wp2_with fail
        refine LC.out.mono ?_
        rintro e w3 ⟨rfl, hk3, hs3⟩
        have HS3 := Lib.hid hs3
        have HK3 := Lib.hid (HKR.out.trans hk3)
        clear hk3 hs3
        go_wp2_with fail
        go_end0
        exact ⟨rfl, HK3.out, HS3.out⟩
      · have h1 : l.len - 2 * i = 1 := by omega
        have hA' := hap.out (by omega)
        obtain ⟨b1, o1, op1, ln1, s1, k1, n1, t1, v1', sub1, va1, vc1, sa1, sc1, hA1, hS1, hd1, a10, a11, a12, a13, a14, a15, a16, hvc1, hv1, a17, hsc1, hs1⟩ := (HRP.out.below hbr.out (fun b hb => hb)).nth (i := 2 * i) (by omega)
        rw [HA.out] at hA1
        injection hA1 with hA1
        injection hA1 with ea1 eb1
        subst ea1
        subst eb1
        obtain ⟨p1, q1⟩ := walk_kid l _ 0 (2 * i) HW.out (by omega) op1 ln1 s1 k1 n1 t1 v1' sub1 hd1
        have r1 : (subRole 41 l.len 7 loop (0 + 2 * i)).1 = 6 := by rw [Nat.zero_add, sub7, rng41 _ _ (by omega), if_pos (by omega)]
        rw [r1] at p1 q1
        obtain ⟨f1, g1, m1⟩ := fit_kid hfit h64 hd1
        have hop1 : op1 = 52 := block_op (ownN_zero p1).1
        subst hop1
        have htd : (l.drop (2 * i)).tot = 1 + sub1.tot + (l.drop (2 * i + 1)).tot := by rw [hd1]; rfl
        have sd1 : SdIn wr W 52 ln1 s1 k1 n1 t1 v1' va1 vc1 sub1 sa1 sc1 6 (subRole 41 l.len 7 loop (0 + 2 * i)).2 d := ⟨p1, q1, f1, g1, by omega, by omega, hvc1, hsc1, hv1, hs1⟩
        have hw7 := block_walk sd1.walk
        have hst1 := stx_one (d := d) hd1 (by omega)
        have hTX : pre ++ (lineT d (⟨#[101, 108, 115, 101]⟩ : ByteArray).data.toList ++ (stsT sub1 (d + 1) ++ lineT d (⟨#[101, 110, 100, 105, 102]⟩ : ByteArray).data.toList)) = ifsT d [105, 102] (stx l d) := by
          rw [← htx.out, hst1, ifsT, List.append_assoc]
          rfl
        have hl1 := stsT_len sub1 _ (d + 1) (by omega) (by omega) f1.2.2.2.2.2.1 g1.2.1 hw7
        rw [htd] at hpl'
        have hline : (lineT d (⟨#[101, 108, 115, 101]⟩ : ByteArray).data.toList).length ≤ 100000 := by rw [lineT_len]; show 2 * d + 4 + 1 ≤ _; omega
        have hshr := HSH.out.belowW hbr.out hW
        have LC := Lib.hid (line_k W (acc ++ pre) d ⟨#[101, 108, 115, 101]⟩ wr hsr.out (by omega) (by decide) (by rw [List.length_append]; omega))
        have SC := Lib.hid (fun W' (hW' : Below W wr W') (hs' : LnSt W' W ((acc ++ pre) ++ lineT d (⟨#[101, 108, 115, 101]⟩ : ByteArray).data.toList)) => HB.out sub1 sa1 sc1 _ (d + 1) W ((acc ++ pre) ++ lineT d (⟨#[101, 108, 115, 101]⟩ : ByteArray).data.toList) ea W' (by omega) (hshr.belowW hW' hW) hs' hW (by unfold Big; rw [List.length_append, List.length_append]; omega) (by omega) (by omega) f1.2.2.2.2.2.1 g1.2.1 hsc1 hw7 (sd1.below hW').hsub)
        rw [show (((d + 1 : Nat) : Int)) = (d : Int) + 1 from by omega] at SC
        have EC := Lib.hid (fun W' (hs' : LnSt W' W (((acc ++ pre) ++ lineT d (⟨#[101, 108, 115, 101]⟩ : ByteArray).data.toList) ++ stsT sub1 (d + 1))) => line_k W (((acc ++ pre) ++ lineT d (⟨#[101, 108, 115, 101]⟩ : ByteArray).data.toList) ++ stsT sub1 (d + 1)) d ⟨#[101, 110, 100, 105, 102]⟩ W' hs' (by omega) (by decide) (by rw [List.length_append, List.length_append, List.length_append]; omega))
        obtain ⟨q, hq⟩ : ∃ q, q = o + 2 * i * 8 := ⟨_, rfl⟩
        rw [show o + 2 * i * 8 = q from hq.symm] at a17 hA'
        subst hA'
        have HTX := Lib.hid hTX
        have HKR := Lib.hid hkr.out
        have HSR := Lib.hid hsr.out
        have H17 := Lib.hid a17
        have HBK := Lib.hid hS1
        clear hkr hbr hsr htx hpl hap hTX hbg hpl' htd sd1 hw7 hst1 hl1 hline hshr p1 q1 r1 f1 g1 m1 hd1 hv1 hs1 hq a10 a11 a12 a13 a14 a15 a16 a17
        rw [h1]
        clear hm h0 h1
        go_wp2_with fail
        refine LC.out.mono ?_
        rintro e w3 ⟨rfl, hk3, hs3⟩
        have HBW3 := Lib.hid (hk3.belowW HSR.out)
        have y17 := (HBW3.out.cell (p := ⟨b, q + 7, none⟩) HBK.out).trans H17.out
        have HS3 := Lib.hid hs3
        have HK3 := Lib.hid (HKR.out.trans hk3)
        clear hk3 hs3
        go_wp2_with fail
        refine (SC.out w3 HBW3.out HS3.out).mono ?_
        rintro e w4 ⟨rfl, hk4, hs4⟩
        have HS4 := Lib.hid hs4
        have HK4 := Lib.hid (HK3.out.trans hk4)
        clear hk4 hs4 y17
        go_wp2_with fail
        refine (EC.out w4 HS4.out).mono ?_
        rintro e w5 ⟨rfl, hk5, hs5⟩
        have HS5 := Lib.hid hs5
        have HK5 := Lib.hid (HK4.out.trans hk5)
        clear hk5 hs5
        go_wp2_with fail
        go_end0
        exact ⟨rfl, HK5.out, by
          rw [← HTX.out]
          have h := HS5.out
          simp only [List.append_assoc] at h ⊢
          exact h⟩

set_option maxRecDepth 100000 in
set_option maxHeartbeats 4000000 in
theorem stmt_41 {N : Nat} (hI : IfsC N) (ln : Int) (s : ByteArray) (k n : Int) (t : ByteArray) (v : VL) (va : Option Addr) (vc : Nat) (sub : NL) (sa : Option Addr) (sc : Nat) (loop : Bool) (d W : Nat) (acc : List UInt8) (ea : Nat → Addr) (w : World)
    (hN : sub.tot ≤ N + 1) (hsh : ShAt w ea) (hst : LnSt w W acc) (hW : 10 < W) (hbig : Big acc (1 + sub.tot)) (hin : SdIn w W 41 ln s k n t v va vc sub sa sc 7 loop d) :
    Calls Tryz.prog 19 #[.pointer (some ⟨W, 0, none⟩), .int .i64 (d : Int), .agg #[.int .i64 41, .int .i64 ln, .string s, .int .i64 k, .int .i64 n, .string t, .slice va v.len vc, .slice sa sub.len sc]] w
      fun e w' => e = .returned (.tuple #[]) ∧ Keep w w' W ∧ LnSt w' W (acc ++ stmtT d 41 s.data.toList (stx sub d)) := by
  have hlt := hst.lt
  have hm : 2 ≤ sub.len := by have h := (ownN_zero hin.own).2.1; simpa [rolesP] using h
  obtain ⟨m, hm0⟩ : ∃ m, m = sub.len := ⟨_, rfl⟩
  obtain ⟨wa, hwa⟩ : ∃ wa, wa = w.alloc (.cells #[.int .i64 41, .int .i64 ln, .string s, .int .i64 k, .int .i64 n, .string t, .slice va v.len vc, .slice sa m sc] 33) := ⟨_, rfl⟩
  have hb : Below w.heap.size w wa := by rw [hwa]; exact (Below.refl _ _).alloc (Nat.le_refl _) _
  have hN1 : NdB wa w.heap.size (.int .i64 41) (.int .i64 ln) (.string s) (.int .i64 k) (.int .i64 n) (.string t) (.slice va v.len vc) (.slice sa m sc) := by rw [hwa]; exact NdB.new _ _ _ _ _ _ _ _ _
  have v0 := hN1.c0; have v7 := hN1.c7
  rw [hwa] at v0 v7
  have hbW := below_le' hb (Nat.le_of_lt hlt)
  have hina := hin.below hbW
  have hsta := hst.below hb
  have hsha := hsh.below hb
  have IC := Lib.hid (hI sub sa sc loop d W acc ea wa hN hsha hsta hW hbig hin.tot hin.dep hin.fit.2.2.2.2.2.1 hin.i64.2.1 hin.hsc hm hin.walk hina.hsub)
  rw [← hm0] at IC ⊢
  have HK := Lib.hid (Keep.of_below hb hlt)
  have HWA := Lib.hid hwa
  have HT := Lib.hid (show stmtT d 41 s.data.toList (stx sub d) = ifsT d [105, 102] (stx sub d) from rfl)
  clear hb hN1 hwa hsh hst hsta hsha hin hina hbW hbig hI hN hm hm0
  go_enter Tryz.func19, Tryz.ntmps19
  go_wp2_with fail
  rw [← HWA.out]
  refine IC.out.mono ?_
  rintro e w1 ⟨rfl, hk1, hs1⟩
  have HS1 := Lib.hid hs1
  have HK1 := Lib.hid (HK.out.trans hk1)
  clear hk1 hs1
  go_wp2_with fail
  go_end0
  exact ⟨rfl, HK1.out, by rw [HT.out]; exact HS1.out⟩
end Go.Proofs.YtgmnbdfbbcpciaaGreatDoor
namespace Go.Proofs.YtgmnbdfbbcpciaaGreatDoor
open Go.RowKit Go.Lib
set_option linter.unusedVariables false

theorem ex_flat {l : NL} {i d : Nat} {op ln : Int} {s : ByteArray} {k n : Int} {t : ByteArray} {v : VL} {sub : NL} (hd : l.drop i = .cons op ln s k n t v sub (l.drop (i + 1))) :
    (((stx l d).drop i).map (·.ex)).flatten = exT d s.data.toList (stx sub d) ++ (((stx l d).drop (i + 1)).map (·.ex)).flatten := by
  rw [stx_drop, stx_drop, hd, stx, List.map_cons, List.flatten_cons]

set_option maxRecDepth 100000 in
set_option maxHeartbeats 8000000 in
theorem stmt_49 {N : Nat} (hB : BlockC N) (ln : Int) (s : ByteArray) (k n : Int) (t : ByteArray) (v : VL) (va : Option Addr) (vc : Nat) (sub : NL) (sa : Option Addr) (sc : Nat) (loop : Bool) (d W : Nat) (acc : List UInt8) (ea : Nat → Addr) (w : World)
    (hN : sub.tot ≤ N + 1) (hsh : ShAt w ea) (hst : LnSt w W acc) (hW : 10 < W) (hbig : Big acc (1 + sub.tot)) (hin : SdIn w W 49 ln s k n t v va vc sub sa sc 7 loop d) :
    Calls Tryz.prog 19 #[.pointer (some ⟨W, 0, none⟩), .int .i64 (d : Int), .agg #[.int .i64 49, .int .i64 ln, .string s, .int .i64 k, .int .i64 n, .string t, .slice va v.len vc, .slice sa sub.len sc]] w
      fun e w' => e = .returned (.tuple #[]) ∧ Keep w w' W ∧ LnSt w' W (acc ++ stmtT d 49 s.data.toList (stx sub d)) := by
  have hlt := hst.lt
  have hm : 2 ≤ sub.len := by have h := (ownN_zero hin.own).2.1; simpa [rolesP] using h
  have hlen := NL.len_tot sub
  obtain ⟨m, hm0⟩ : ∃ m, m = sub.len := ⟨_, rfl⟩
  obtain ⟨wa, hwa⟩ : ∃ wa, wa = w.alloc (.cells #[.int .i64 49, .int .i64 ln, .string s, .int .i64 k, .int .i64 n, .string t, .slice va v.len vc, .slice sa m sc] 33) := ⟨_, rfl⟩
  have hb : Below w.heap.size w wa := by rw [hwa]; exact (Below.refl _ _).alloc (Nat.le_refl _) _
  have hN1 : NdB wa w.heap.size (.int .i64 49) (.int .i64 ln) (.string s) (.int .i64 k) (.int .i64 n) (.string t) (.slice va v.len vc) (.slice sa m sc) := by rw [hwa]; exact NdB.new _ _ _ _ _ _ _ _ _
  have z0 := hN1.c0; have z7 := hN1.c7
  rw [hwa] at z0 z7
  have hbW := below_le' hb (Nat.le_of_lt hlt)
  have hina := hin.below hbW
  have hsta := hst.below hb
  have hsha := hsh.below hb
  have hWa : W < wa.heap.size := hsta.lt
  obtain ⟨b, o, op0, ln0, s0, k0, n0, t0, v0', sub0, va0, vc0, sa0, sc0, hA0, hS0, hd0, a00, a01, a02, a03, a04, a05, a06, hvc0, hv0, a07, hsc0, hs0⟩ := hina.hsub.nth (i := 0) (by omega)
  obtain ⟨p0, q0⟩ := walk_kid sub _ 0 0 hin.walk (by omega) op0 ln0 s0 k0 n0 t0 v0' sub0 hd0
  have r0 : (subRole 49 sub.len 7 loop (0 + 0)).1 = 6 := by rw [sub7]; rfl
  rw [r0] at p0 q0
  obtain ⟨f0, g0, m0⟩ := fit_kid hin.fit.2.2.2.2.2.1 hin.i64.2.1 hd0
  have hop0 : op0 = 52 := block_op (ownN_zero p0).1
  subst hop0
  have ht4 := hin.tot
  have hdp := hin.dep
  have htot : sub.tot = 1 + sub0.tot + (sub.drop 1).tot := by
    have h0 : sub = .cons 52 ln0 s0 k0 n0 t0 v0' sub0 (sub.drop 1) := by
      have h := hd0
      rw [NL.drop] at h; exact h
    rw [h0]; rfl
  have sd0 : SdIn wa W 52 ln0 s0 k0 n0 t0 v0' va0 vc0 sub0 sa0 sc0 6 (subRole 49 sub.len 7 loop (0 + 0)).2 d := ⟨p0, q0, f0, g0, by omega, by omega, hvc0, hsc0, hv0, hs0⟩
  have hx0 := stx_at d hd0
  have hw7 := block_walk sd0.walk
  obtain ⟨tl, htl⟩ : ∃ tl, tl = lineT d (⟨#[101, 110, 100, 116, 114, 121]⟩ : ByteArray).data.toList := ⟨_, rfl⟩
  have HT : stmtT d 49 s.data.toList (stx sub d) = (lineT d [116, 114, 121] ++ stsT sub0 (d + 1)) ++ ((((stx sub d).drop 1).map (·.ex)).flatten ++ tl) := by
    show lineT d [116, 114, 121] ++ ((stx sub d).getD 0 default).bk ++ (((stx sub d).drop 1).map (·.ex)).flatten ++ lineT d [101, 110, 100, 116, 114, 121] = _
    rw [hx0, htl]
    simp only [List.append_assoc]
    rfl
  have hl0 : (lineT d [116, 114, 121]).length ≤ 100000 := by rw [lineT_len]; show 2 * d + 3 + 1 ≤ _; omega
  have hl1 := stsT_len sub0 _ (d + 1) (by omega) (by omega) f0.2.2.2.2.2.1 g0.2.1 hw7
  have hbg : acc.length + 10000000000 * (1 + sub.tot) ≤ 100000000000000 := hbig
  have LC := Lib.hid (line_k W acc d ⟨#[116, 114, 121]⟩ wa hsta (by omega) (by decide) (by omega))
  have BC := Lib.hid (fun W' (hW' : Below W wa W') (hs' : LnSt W' W (acc ++ lineT d [116, 114, 121])) => hB sub0 sa0 sc0 _ (d + 1) W (acc ++ lineT d [116, 114, 121]) ea W' (by omega) (hsha.belowW hW' hW) hs' hW (by unfold Big; rw [List.length_append]; omega) (by omega) (by omega) f0.2.2.2.2.2.1 g0.2.1 hsc0 hw7 (sd0.below hW').hsub)
  rw [show (((d + 1 : Nat) : Int)) = (d : Int) + 1 from by omega] at BC
  have e1 : IntKind.i64.wrap ((d : Int) + 1) = (d : Int) + 1 := IntWalk.i64_in _ (by omega)
  have HK := Lib.hid (Keep.of_below hb hlt)
  have HSTA := Lib.hid hsta
  have HWA := Lib.hid hwa
  have HSHA := Lib.hid hsha
  have HINA := Lib.hid hina
  have HB := Lib.hid hB
  have HBIG := Lib.hid hbg
  have hPL0 := Lib.hid (show (lineT d [116, 114, 121] ++ stsT sub0 (d + 1)).length + 10000000000 * (sub.drop 1).tot ≤ 10000000000 * sub.tot by rw [List.length_append]; omega)
  have HTT := Lib.hid HT
  have HTL := Lib.hid htl
  have HM := Lib.hid hm0
  have hsc := hin.hsc
  have hmb : m ≤ 4096 := by omega
  rw [← hm0]
  rw [← hm0] at hsc hm
  subst hA0
  have X := Lib.hid (And.intro a00 (And.intro a01 (And.intro a02 (And.intro a03 (And.intro a04 (And.intro a05 (And.intro a06 a07)))))))
  have HS0 := Lib.hid hS0
  clear hb hN1 hwa hsh hst hsta hsha hin hina hbW hbg hbig hl0 hl1 hB htot sd0 hw7 hv0 hs0 hd0 p0 q0 r0 f0 g0 m0 hx0 HT htl hm0 a00 a01 a02 a03 a04 a05 a06 a07
  go_enter Tryz.func19, Tryz.ntmps19
  go_wp2_with fail
  rw [← HWA.out]
  refine LC.out.mono ?_
  rintro e w1 ⟨rfl, hk1, hs1⟩
  have HBW1 := Lib.hid (hk1.belowW HSTA.out)
  have y07p := (HBW1.out.cell (p := ⟨b, o + 0 * 8 + 7, none⟩) HS0.out).trans X.out.2.2.2.2.2.2.2
  rw [show o + 0 * 8 = o from by omega] at y07p
  have HS1 := Lib.hid hs1
  have HK1 := Lib.hid (HK.out.trans hk1)
  clear hk1 hs1
  have hmi : 0 < m := by omega
  have hmj : (0 : Int) < (m : Int) := by omega
  go_wp2_with fail
  refine (BC.out w1 HBW1.out HS1.out).mono ?_
  rintro e w2 ⟨rfl, hk2, hs2⟩
  have HBW2 := Lib.hid (HBW1.out.trans (hk2.belowW HS1.out))
  have HS2 := Lib.hid (show LnSt w2 W (acc ++ (lineT d [116, 114, 121] ++ stsT sub0 (d + 1))) by rw [← List.append_assoc]; exact hs2)
  have HK2 := Lib.hid (HK1.out.trans hk2)
  clear hk2 hs2 y07p
  have hc1 : ¬ ((sc : Int) - 1 = 0) := by omega
  have hc2 : 1 ≤ m := by omega
  have hc3 : (1 : Int) ≤ (m : Int) := by omega
  go_wp2_with fail
  go_loopg [143] (m - 1) (fun kk v wr => ∃ (i : Nat) (pre : List UInt8), v = .int .i64 i ∧ i + kk = m - 1 ∧ Hid (Keep w wr W) ∧ Hid (Below W wa wr) ∧ Hid (LnSt wr W (acc ++ pre)) ∧ Hid (pre ++ ((((stx sub d).drop (i + 1)).map (·.ex)).flatten ++ tl) = stmtT d 49 s.data.toList (stx sub d)) ∧ Hid (pre.length + 10000000000 * (sub.drop (i + 1)).tot ≤ 10000000000 * sub.tot))
  case atStart => exact ⟨0, lineT d [116, 114, 121] ++ stsT sub0 (d + 1), rfl, by omega, HK2.out, HBW2.out, HS2.out, HTT.out.symm, hPL0.out⟩
  case round =>
    obtain ⟨i, pre, rfl, hik, hkr, hbr, hsr, htx, hpl⟩ := hrel
    have hltr := hsr.out.lt
    by_cases hi : i < m - 1
    · obtain ⟨g, rfl⟩ : ∃ g, gk = g + 1 := ⟨gk - 1, by omega⟩
      obtain ⟨b1, o1, op1, ln1, s1, k1, n1, t1, v1', sub1, va1, vc1, sa1, sc1, hA1, hS1, hd1, a10, a11, a12, a13, a14, a15, a16, hvc1, hv1, a17, hsc1, hs1⟩ := (HINA.out.below hbr.out).hsub.nth (i := i + 1) (by have := HM.out; omega)
      injection hA1 with hA1
      injection hA1 with e1a e1b
      subst e1a
      subst e1b
      obtain ⟨p1, q1⟩ := walk_kid sub _ 0 (i + 1) HINA.out.walk (by have := HM.out; omega) op1 ln1 s1 k1 n1 t1 v1' sub1 hd1
      have r1 : (subRole 49 sub.len 7 loop (0 + (i + 1))).1 = 8 := by rw [Nat.zero_add, sub7, rng49 _ _ (by have := HM.out; omega)]
      rw [r1] at p1 q1
      obtain ⟨f1, g1, m1⟩ := fit_kid HINA.out.fit.2.2.2.2.2.1 HINA.out.i64.2.1 hd1
      have hop1 : op1 = 50 := except_op (ownN_zero p1).1
      subst hop1
      have hs32 := own_name p1
      have hm1 : sub1.len = 2 := by have h := (ownN_zero p1).2.1; simpa [rolesP] using h
      have htd : (sub.drop (i + 1)).tot = 1 + sub1.tot + (sub.drop (i + 1 + 1)).tot := by rw [hd1]; rfl
      -- what the Except has
      obtain ⟨b2, o2, op2, ln2, s2, k2, n2, t2, v2', sub2, va2, vc2, sa2, sc2, hA2, hS2, hd2, a20, a21, a22, a23, a24, a25, a26, hvc2, hv2, a27, hsc2, hs2⟩ := hs1.nth (i := 0) (by omega)
      obtain ⟨b3, o3, op3, ln3, s3, k3, n3, t3, v3', sub3, va3, vc3, sa3, sc3, hA3, hS3, hd3, a30, a31, a32, a33, a34, a35, a36, hvc3, hv3, a37, hsc3, hs3⟩ := hs1.nth (i := 1) (by omega)
      rw [hA2] at hA3
      injection hA3 with hA3
      injection hA3 with e3a e3b
      subst e3a
      subst e3b
      obtain ⟨p2, q2⟩ := walk_kid sub1 _ 0 0 q1 (by omega) op2 ln2 s2 k2 n2 t2 v2' sub2 hd2
      obtain ⟨p3, q3⟩ := walk_kid sub1 _ 0 1 q1 (by omega) op3 ln3 s3 k3 n3 t3 v3' sub3 hd3
      obtain ⟨lp, hlp⟩ : ∃ lp, lp = (subRole 49 sub.len 7 loop (0 + (i + 1))).2 := ⟨_, rfl⟩
      rw [← hlp] at p1 q1 p2 q2 p3 q3
      have r2 : (subRole 50 sub1.len 8 lp (0 + 0)).1 = 5 := by rw [hm1]; rfl
      have r3 : (subRole 50 sub1.len 8 lp (0 + 1)).1 = 6 := by rw [hm1]; rfl
      rw [r2] at p2 q2
      rw [r3] at p3 q3
      obtain ⟨f2, g2, m2⟩ := fit_kid f1.2.2.2.2.2.1 g1.2.1 hd2
      obtain ⟨f3, g3, m3⟩ := fit_kid f1.2.2.2.2.2.1 g1.2.1 hd3
      have hop3 : op3 = 52 := block_op (ownN_zero p3).1
      subst hop3
      have htot1 : sub1.tot = (1 + sub2.tot) + ((1 + sub3.tot) + 0) := by
        have h0 : sub1 = .cons op2 ln2 s2 k2 n2 t2 v2' sub2 (sub1.drop 1) := by
          have h := hd2
          rw [NL.drop] at h; exact h
        have hl : sub1.drop 2 = .nil := by
          have hl := NL.len_drop 2 sub1
          cases hq : sub1.drop 2 with
          | nil => rfl
          | cons => rw [hq] at hl; simp only [NL.len] at hl; omega
        rw [h0, hd3, hl]; rfl
      have hzr := hbr.out.size
      have hina1 : SdIn wr W 50 ln1 s1 k1 n1 t1 v1' va1 vc1 sub1 sa1 sc1 8 lp d := ⟨p1, q1, f1, g1, by omega, by omega, hvc1, hsc1, hv1, hs1⟩
      have sd2 : SdIn wr W op2 ln2 s2 k2 n2 t2 v2' va2 vc2 sub2 sa2 sc2 5 (subRole 50 sub1.len 8 lp (0 + 0)).2 d := ⟨p2, q2, f2, g2, by omega, by omega, hvc2, hsc2, hv2, hs2⟩
      have sd3 : SdIn wr W 52 ln3 s3 k3 n3 t3 v3' va3 vc3 sub3 sa3 sc3 6 (subRole 50 sub1.len 8 lp (0 + 1)).2 d := ⟨p3, q3, f3, g3, by omega, by omega, hvc3, hsc3, hv3, hs3⟩
      have hw7 := block_walk sd3.walk
      have in2 := sd2.nd (by decide) (Nat.le_of_lt hltr)
      obtain ⟨cd, hcd⟩ : ∃ cd, cd = (nodeT op2 s2 k2 n2 t2 v2' (ntx sub2)).cd := ⟨_, rfl⟩
      have hcl := (ex_len in2.ex in2.tot).2.2.1
      rw [← hcd, ← bs_size] at hcl
      have hxf := ex_flat (d := d) hd1
      have hxe : exT d s1.data.toList (stx sub1 d) = lineT d ([101, 120, 99, 101, 112, 116, 32] ++ (if s1.data.toList.length ≠ 0 then s1.data.toList ++ [32] else []) ++ [40] ++ cd ++ [41]) ++ stsT sub3 (d + 1) := by
        show lineT d ([101, 120, 99, 101, 112, 116, 32] ++ (if s1.data.toList.length ≠ 0 then s1.data.toList ++ [32] else []) ++ [40] ++ ((stx sub1 d).getD 0 default).x.cd ++ [41]) ++ ((stx sub1 d).getD 1 default).bk = _
        rw [stx_at d hd2, stx_at d hd3, hcd]
        rfl
      have hsl : s1.data.toList.length = s1.size := by rw [Array.length_toList]; rfl
      rw [hsl] at hxe
      obtain ⟨pf, hpf⟩ : ∃ pf : ByteArray, pf = (if s1.size ≠ 0 then ⟨#[101, 120, 99, 101, 112, 116, 32]⟩ ++ (s1 ++ ⟨#[32]⟩) else ⟨#[101, 120, 99, 101, 112, 116, 32]⟩) := ⟨_, rfl⟩
      obtain ⟨hd_, hhd⟩ : ∃ h : ByteArray, h = pf ++ ⟨#[40]⟩ ++ bs cd ++ ⟨#[41]⟩ := ⟨_, rfl⟩
      have hpl_ : pf.data.toList = [101, 120, 99, 101, 112, 116, 32] ++ (if s1.size ≠ 0 then s1.data.toList ++ [32] else []) := by
        rw [hpf]; by_cases h : s1.size ≠ 0
        · rw [if_pos h, if_pos h]; simp
        · rw [if_neg h, if_neg h]; simp
      have hpn : pf.size ≤ 40 := by
        rw [hpf]; by_cases h : s1.size ≠ 0
        · rw [if_pos h, ByteArray.size_append, ByteArray.size_append]; show 7 + (s1.size + 1) ≤ 40; omega
        · rw [if_neg h]; show 7 ≤ 40; omega
      have hhs : hd_.size ≤ 1000000000 := by
        rw [hhd, ByteArray.size_append, ByteArray.size_append, ByteArray.size_append]
        have e1 : (⟨#[40]⟩ : ByteArray).size = 1 := rfl
        have e2 : (⟨#[41]⟩ : ByteArray).size = 1 := rfl
        omega
      have hhl : hd_.data.toList = [101, 120, 99, 101, 112, 116, 32] ++ (if s1.size ≠ 0 then s1.data.toList ++ [32] else []) ++ [40] ++ cd ++ [41] := by rw [hhd, ← hpl_]; simp [bs]
      rw [← hhl] at hxe
      have hhn : hd_.data.toList.length = hd_.size := by rw [Array.length_toList]; rfl
      have hl3 := stsT_len sub3 _ (d + 1) (by omega) (by omega) f3.2.2.2.2.2.1 g3.2.1 hw7
      have hbg := HBIG.out
      have hpl' := hpl.out
      rw [htd] at hpl'
      have hline : (lineT d hd_.data.toList).length ≤ 1000100000 := by rw [lineT_len]; omega
      have hTX : (pre ++ (lineT d hd_.data.toList ++ stsT sub3 (d + 1))) ++ ((((stx sub d).drop (i + 1 + 1)).map (·.ex)).flatten ++ tl) = stmtT d 49 s.data.toList (stx sub d) := by
        rw [← htx.out, hxf, hxe]
        simp only [List.append_assoc]
      have hPL : (pre ++ (lineT d hd_.data.toList ++ stsT sub3 (d + 1))).length + 10000000000 * (sub.drop (i + 1 + 1)).tot ≤ 10000000000 * sub.tot := by
        rw [List.length_append, List.length_append]; omega
      obtain ⟨wx, hwx⟩ : ∃ wx, wx = wr.alloc (.cells #[.int .i64 50, .int .i64 ln1, .string s1, .int .i64 k1, .int .i64 n1, .string t1, .slice va1 v1'.len vc1, .slice (some ⟨b2, o2, none⟩) 2 sc1] 33) := ⟨_, rfl⟩
      have hbx : Below wr.heap.size wr wx := by rw [hwx]; exact (Below.refl _ _).alloc (Nat.le_refl _) _
      have hbxW := below_le' hbx (Nat.le_of_lt hltr)
      have hnb : NdB wx wr.heap.size (.int .i64 50) (.int .i64 ln1) (.string s1) (.int .i64 k1) (.int .i64 n1) (.string t1) (.slice va1 v1'.len vc1) (.slice (some ⟨b2, o2, none⟩) 2 sc1) := by rw [hwx]; exact NdB.new _ _ _ _ _ _ _ _ _
      have y0 := hnb.c0; have y1 := hnb.c1; have y2 := hnb.c2; have y3 := hnb.c3; have y4 := hnb.c4; have y5 := hnb.c5; have y6 := hnb.c6; have y7 := hnb.c7
      rw [show o2 + 0 * 8 = o2 from by omega] at a20 a21 a22 a23 a24 a25 a26 a27
      rw [show o2 + 1 * 8 = o2 + 8 from by omega] at a37
      have u20 := (hbxW.cell (p := ⟨b2, o2, none⟩) hS2).trans a20
      have u21 := (hbxW.cell (p := ⟨b2, o2 + 1, none⟩) hS2).trans a21
      have u22 := (hbxW.cell (p := ⟨b2, o2 + 2, none⟩) hS2).trans a22
      have u23 := (hbxW.cell (p := ⟨b2, o2 + 3, none⟩) hS2).trans a23
      have u24 := (hbxW.cell (p := ⟨b2, o2 + 4, none⟩) hS2).trans a24
      have u25 := (hbxW.cell (p := ⟨b2, o2 + 5, none⟩) hS2).trans a25
      have u26 := (hbxW.cell (p := ⟨b2, o2 + 6, none⟩) hS2).trans a26
      have u27 := (hbxW.cell (p := ⟨b2, o2 + 7, none⟩) hS2).trans a27
      have H37 := Lib.hid ((hbxW.cell (p := ⟨b2, o2 + 8 + 7, none⟩) hS2).trans a37)
      rw [hwx] at y0 y1 y2 y3 y4 y5 y6 y7 u20 u21 u22 u23 u24 u25 u26 u27
      have hshx := (HSHA.out.belowW hbr.out hW).below hbx
      have CC := Lib.hid (codes_of (bare_c sub2.tot) op2 ln2 s2 k2 n2 t2 v2' va2 vc2 sub2 sa2 sc2 ea wx (Nat.le_refl _) hshx (in2.below hbx))
      rw [← hcd] at CC
      have LH := Lib.hid (fun W' (hs' : LnSt W' W (acc ++ pre)) => line_k W (acc ++ pre) d hd_ W' hs' (by omega) (by omega) (by rw [List.length_append]; omega))
      have SC := Lib.hid (fun W' (hW' : Below W wx W') (hs' : LnSt W' W ((acc ++ pre) ++ lineT d hd_.data.toList)) => HB.out sub3 sa3 sc3 _ (d + 1) W ((acc ++ pre) ++ lineT d hd_.data.toList) ea W' (by omega) (hshx.belowW hW' hW) hs' hW (by unfold Big; rw [List.length_append, List.length_append]; omega) (by omega) (by omega) f3.2.2.2.2.2.1 g3.2.1 hsc3 hw7 ((sd3.below hbxW).below hW').hsub)
      rw [show (((d + 1 : Nat) : Int)) = (d : Int) + 1 from by omega] at SC
      rw [show o + (i + 1) * 8 = o + 8 + i * 8 from by omega] at a10 a11 a12 a13 a14 a15 a16 a17
      rw [hA2, hm1] at a17
      have hxp : ¬ (9223372036854775807 < pf.size + 1) := by omega
      have hxq : ¬ (9223372036854775807 < pf.size + 1 + (bs cd).size) := by omega
      have hxr : ¬ (9223372036854775807 < pf.size + 1 + (bs cd).size + 1) := by omega
      have hxs : ¬ (9223372036854775807 < s1.size + 1) := by omega
      have hxt : ¬ (9223372036854775807 < 7 + (s1.size + 1)) := by omega
      have HTX := Lib.hid hTX
      have HPL := Lib.hid hPL
      have HKX := Lib.hid (hkr.out.trans (Keep.of_below hbx hltr))
      have HSR := Lib.hid hsr.out
      have HSX := Lib.hid (hsr.out.below hbx)
      have HBR := Lib.hid hbr.out
      have HBX := Lib.hid hbx
      have HNX := Lib.hid hnb
      have HZX := Lib.hid (show wr.heap.size < wx.heap.size by rw [hwx]; simp)
      have HWX := Lib.hid hwx
      have HBK := Lib.hid hS2
      have HHD := Lib.hid hhd
      have ii : i < m - 1 := hi
      have ij : (i : Int) < ((m - 1 : Nat) : Int) := by omega
      clear hkr hbr hsr htx hpl hTX hPL hbg hpl' htd hina1 sd2 sd3 hw7 in2 hcl hxf hxe hsl hpl_ hhs hhl hhn hl3 hline hbx hbxW hnb hshx p1 q1 r1 f1 g1 m1 p2 q2 r2 f2 g2 m2 p3 q3 r3 f3 g3 m3 htot1 hd1 hd2 hd3 hv1 hs1 hv2 hs2 hv3 hs3 a20 a21 a22 a23 a24 a25 a26 a27 a30 a31 a32 a33 a34 a35 a36 a37 hwx hhd hlp hcd hs32 hm1 hA2
      have es := empty_size s1
      by_cases hse : s1.size = 0
      · obtain ⟨e1_, e2_⟩ : s1.toList.isEmpty = true ∧ s1.toList = [] := by rcases es with h | h; exact ⟨h.1, h.2.1⟩; exact absurd hse h.2.2
        rw [if_neg (by omega)] at hpf
        have HH := Lib.hid (show ⟨#[101, 120, 99, 101, 112, 116, 32]⟩ ++ ⟨#[40]⟩ ++ bs cd ++ ⟨#[41]⟩ = hd_ by rw [HHD.out, hpf])
        rw [hpf] at hxp hxq hxr hpn
        clear es hse hpf
        go_wp2_with fail
        rw [← HWX.out]
        refine CC.out.mono ?_
        rintro e w3 ⟨rfl, hb3⟩
        have HS3 := Lib.hid (HSX.out.below hb3)
        have HB3 := Lib.hid hb3
        have HK3 := Lib.hid (HKX.out.trans (Keep.of_below hb3 HSX.out.lt))
        clear hb3 u20 u21 u22 u23 u24 u25 u26 u27 y0 y1 y2 y3 y4 y5 y6 y7
        go_wp2_with fail
        rw [HH.out]
        refine (LH.out w3 HS3.out).mono ?_
        rintro e w4 ⟨rfl, hk4, hs4⟩
        have HBX4 := Lib.hid ((below_le' HB3.out (Nat.le_of_lt HSX.out.lt)).trans (hk4.belowW HS3.out))
        have z7x := (hk4.far HSR.out (HBX.out.trans (below_le' HB3.out HBX.out.size)) (Nat.le_refl _) (by have := HB3.out.size; have := HZX.out; omega)).trans ((HB3.out.block _ HZX.out).trans HNX.out)
        have y7 := cell_of_row w4 wr.heap.size 7 _ _ _ z7x
        have y37 := (HBX4.out.cell (p := ⟨b2, o2 + 8 + 7, none⟩) HBK.out).trans H37.out
        have HS4 := Lib.hid hs4
        have HK4 := Lib.hid (HK3.out.trans hk4)
        clear hk4 hs4 z7x
        go_wp2_with fail
        refine (SC.out w4 HBX4.out HS4.out).mono ?_
        rintro e w5 ⟨rfl, hk5, hs5⟩
        have HBR5 := Lib.hid (HBR.out.trans ((below_le' HBX.out (Nat.le_of_lt HSR.out.lt)).trans (HBX4.out.trans (hk5.belowW HS4.out))))
        have HS5 := Lib.hid (show LnSt w5 W (acc ++ (pre ++ (lineT d hd_.data.toList ++ stsT sub3 (d + 1)))) by
          have h := hs5
          simp only [List.append_assoc] at h ⊢
          exact h)
        have HK5 := Lib.hid (HK4.out.trans hk5)
        clear hk5 hs5 y7 y37
        go_wp2_with fail
        go_roundg g
        case measure => omega
        case rel => exact ⟨i + 1, pre ++ (lineT d hd_.data.toList ++ stsT sub3 (d + 1)), by go_num, by omega, HK5.out, HBR5.out, HS5.out, HTX.out, HPL.out⟩
      · obtain ⟨e1_, e2_⟩ : s1.toList.isEmpty = false ∧ ¬s1.toList = [] := by rcases es with h | h; exact absurd h.2.2 hse; exact ⟨h.1, h.2.1⟩
        rw [if_pos (by omega)] at hpf
        have HH := Lib.hid (show ⟨#[101, 120, 99, 101, 112, 116, 32]⟩ ++ (s1 ++ ⟨#[32]⟩) ++ ⟨#[40]⟩ ++ bs cd ++ ⟨#[41]⟩ = hd_ by rw [HHD.out, hpf])
        have hpz : pf.size = 7 + (s1.size + 1) := by rw [hpf, ByteArray.size_append, ByteArray.size_append]; rfl
        rw [hpz] at hxp hxq hxr
        clear es hse hpf hpz
        go_wp2_with fail
        rw [← HWX.out]
        refine CC.out.mono ?_
        rintro e w3 ⟨rfl, hb3⟩
        have HS3 := Lib.hid (HSX.out.below hb3)
        have HB3 := Lib.hid hb3
        have HK3 := Lib.hid (HKX.out.trans (Keep.of_below hb3 HSX.out.lt))
        clear hb3 u20 u21 u22 u23 u24 u25 u26 u27 y0 y1 y2 y3 y4 y5 y6 y7
        go_wp2_with fail
        rw [HH.out]
        refine (LH.out w3 HS3.out).mono ?_
        rintro e w4 ⟨rfl, hk4, hs4⟩
        have HBX4 := Lib.hid ((below_le' HB3.out (Nat.le_of_lt HSX.out.lt)).trans (hk4.belowW HS3.out))
        have z7x := (hk4.far HSR.out (HBX.out.trans (below_le' HB3.out HBX.out.size)) (Nat.le_refl _) (by have := HB3.out.size; have := HZX.out; omega)).trans ((HB3.out.block _ HZX.out).trans HNX.out)
        have y7 := cell_of_row w4 wr.heap.size 7 _ _ _ z7x
        have y37 := (HBX4.out.cell (p := ⟨b2, o2 + 8 + 7, none⟩) HBK.out).trans H37.out
        have HS4 := Lib.hid hs4
        have HK4 := Lib.hid (HK3.out.trans hk4)
        clear hk4 hs4 z7x
        go_wp2_with fail
        refine (SC.out w4 HBX4.out HS4.out).mono ?_
        rintro e w5 ⟨rfl, hk5, hs5⟩
        have HBR5 := Lib.hid (HBR.out.trans ((below_le' HBX.out (Nat.le_of_lt HSR.out.lt)).trans (HBX4.out.trans (hk5.belowW HS4.out))))
        have HS5 := Lib.hid (show LnSt w5 W (acc ++ (pre ++ (lineT d hd_.data.toList ++ stsT sub3 (d + 1)))) by
          have h := hs5
          simp only [List.append_assoc] at h ⊢
          exact h)
        have HK5 := Lib.hid (HK4.out.trans hk5)
        clear hk5 hs5 y7 y37
        go_wp2_with fail
        go_roundg g
        case measure => omega
        case rel => exact ⟨i + 1, pre ++ (lineT d hd_.data.toList ++ stsT sub3 (d + 1)), by go_num, by omega, HK5.out, HBR5.out, HS5.out, HTX.out, HPL.out⟩
    · have hst0 : ((((stx sub d).drop (i + 1)).map (·.ex)).flatten) = [] := by
        rw [stx_none (l := sub) (i := i + 1) (d := d) (by have := HM.out; omega)]; rfl
      have hTX : pre ++ lineT d (⟨#[101, 110, 100, 116, 114, 121]⟩ : ByteArray).data.toList = stmtT d 49 s.data.toList (stx sub d) := by rw [← htx.out, hst0, HTL.out]; rfl
      have hbg := HBIG.out
      have hpl' := hpl.out
      have LE := Lib.hid (line_k W (acc ++ pre) d ⟨#[101, 110, 100, 116, 114, 121]⟩ wr hsr.out (by omega) (by decide) (by rw [List.length_append]; omega))
      rw [List.append_assoc, hTX] at LE
      have HKR := Lib.hid hkr.out
      have ij : ¬ ((i : Int) < ((m - 1 : Nat) : Int)) := by omega
      clear hkr hbr hsr htx hpl hTX hbg hpl' hst0
      go_wp2_with fail
      refine LE.out.mono ?_
      rintro e w3 ⟨rfl, hk3, hs3⟩
      have HS3 := Lib.hid hs3
      have HK3 := Lib.hid (HKR.out.trans hk3)
      clear hk3 hs3
      go_wp2_with fail
      go_end0
      exact ⟨rfl, HK3.out, HS3.out⟩
end Go.Proofs.YtgmnbdfbbcpciaaGreatDoor
namespace Go.Proofs.YtgmnbdfbbcpciaaGreatDoor
open Go.RowKit Go.Lib
set_option linter.unusedVariables false

/-- A Do in memory: one node under it. -/
structure DoIn (w : World) (ln : Int) (s : ByteArray) (k n : Int) (t : ByteArray) (v : VL) (va : Option Addr) (vc : Nat) (sub : NL) (sa : Option Addr) (sc : Nat) : Prop where
  ex : ExN sub
  one : sub.len = 1
  tot : sub.tot ≤ 4096
  hvc : v.len ≤ vc
  hsc : sub.len ≤ sc
  hv : RpL w (fun b => b < w.heap.size) v va
  hsub : RpN w (fun b => b < w.heap.size) sub sa
theorem DoIn.below {w w' : World} {ln : Int} {s : ByteArray} {k n : Int} {t : ByteArray} {v : VL} {va : Option Addr} {vc : Nat} {sub : NL} {sa : Option Addr} {sc : Nat} (h : DoIn w ln s k n t v va vc sub sa sc) (hb : Below w.heap.size w w') : DoIn w' ln s k n t v va vc sub sa sc :=
  ⟨h.ex, h.one, h.tot, h.hvc, h.hsc, h.hv.keep (fun b hlt => hb.block b hlt) (fun b hlt => Nat.lt_of_lt_of_le hlt hb.size), h.hsub.keep (fun b hlt => hb.block b hlt) (fun b hlt => Nat.lt_of_lt_of_le hlt hb.size)⟩

set_option maxRecDepth 100000 in
set_option maxHeartbeats 2000000 in
theorem stmt_do (W : Nat) (acc : List UInt8) (d : Nat) (ln : Int) (s : ByteArray) (k n : Int) (t : ByteArray) (v : VL) (va : Option Addr) (vc : Nat) (sub : NL) (sa : Option Addr) (sc : Nat) (ea : Nat → Addr) (w : World) (hsh : ShAt w ea) (hst : LnSt w W acc) (hd : d ≤ 5000) (ha : acc.length ≤ 100000000000000)
    (hnd : DoIn w ln s k n t v va vc sub sa sc) :
    Calls Tryz.prog 19 #[.pointer (some ⟨W, 0, none⟩), .int .i64 (d : Int), .agg #[.int .i64 40, .int .i64 ln, .string s, .int .i64 k, .int .i64 n, .string t, .slice va v.len vc, .slice sa sub.len sc]] w
      fun e w' => e = .returned (.tuple #[]) ∧ Below W w w' ∧ LnSt w' W (acc ++ lineT d (((ntx sub).getD 0 default).b ++ [59])) := by
  have hlt := hst.lt
  obtain ⟨wa, hwa⟩ : ∃ wa, wa = w.alloc (.cells #[.int .i64 40, .int .i64 ln, .string s, .int .i64 k, .int .i64 n, .string t, .slice va v.len vc, .slice sa sub.len sc] 33) := ⟨_, rfl⟩
  have hb : Below w.heap.size w wa := by rw [hwa]; exact (Below.refl _ _).alloc (Nat.le_refl _) _
  have hN1 : NdB wa w.heap.size (.int .i64 40) (.int .i64 ln) (.string s) (.int .i64 k) (.int .i64 n) (.string t) (.slice va v.len vc) (.slice sa sub.len sc) := by rw [hwa]; exact NdB.new _ _ _ _ _ _ _ _ _
  have v0 := hN1.c0; have v7 := hN1.c7
  rw [hwa] at v0 v7
  have hnda := hnd.below hb
  have hone := hnd.one
  obtain ⟨b, o, op', ln', s', k', n', t', v', sub', va', vc', sa', sc', hA, hSb, hd', c0, c1, c2, c3, c4, c5, c6, hvc', hv', c7, hsc', hs'⟩ := hnda.hsub.nth (i := 0) (by omega)
  have htd := NL.tot_drop 0 sub
  have hed := ExN.drop 0 sub hnd.ex
  rw [hd'] at htd hed
  simp only [NL.tot] at htd
  have hed1 : ExN (node1 op' ln' s' k' n' t' v' sub') := by
    obtain ⟨a1, a2, a3, a4, a5, a6, -⟩ := hed
    exact ⟨a1, a2, a3, a4, a5, a6, trivial⟩
  have h4 := hnd.tot
  have BC := Lib.hid (bare_c (sub'.tot + 1) op' ln' s' k' n' t' v' va' vc' sub' sa' sc' ea wa (by omega) (hsh.below hb) ⟨hed1, by omega, hvc', hsc', hv', hs'⟩)
  have hlen := (ex_len hed1 (by omega)).1
  have hx := ntx_at hd'
  obtain ⟨x, hxx⟩ : ∃ x, x = nodeT op' s' k' n' t' v' (ntx sub') := ⟨_, rfl⟩
  rw [← hxx] at BC hlen hx
  rw [hx]
  rw [← bs_size] at hlen
  rw [show o + 0 * 8 = o from by omega] at c0 c1 c2 c3 c4 c5 c6 c7
  have HLN := Lib.hid (show (bs x.b ++ ⟨#[59]⟩ : ByteArray).data.toList = x.b ++ [59] by simp [bs])
  have HLC := Lib.hid (fun W' (hW' : LnSt W' W acc) => line_c W acc d (bs x.b ++ ⟨#[59]⟩) W' hW' hd (by rw [ByteArray.size_append]; show (bs x.b).size + 1 ≤ _; omega) ha)
  have HST := Lib.hid (hst.below hb)
  have HB := Lib.hid hb
  have HWA := Lib.hid hwa
  have i0 : 0 < sub.len := by omega
  subst hA
  rw [hwa] at c0 c1 c2 c3 c4 c5 c6 c7
  clear hb hN1 hwa hsh hst hnd hnda htd hed hed1 hv' hs' hd' hx hxx hone
  go_enter Tryz.func19, Tryz.ntmps19
  go_wp2_with fail
  rw [← HWA.out]
  refine BC.out.mono ?_
  rintro e w2 ⟨rfl, hb2⟩
  have HST2 := Lib.hid (HST.out.below hb2)
  have HB2 := Lib.hid (show Below W w w2 from (below_le' HB.out (Nat.le_of_lt hlt)).trans (below_le' hb2 (by have := HB.out.size; omega)))
  clear hb2 c0 c1 c2 c3 c4 c5 c6 c7 v0 v7
  go_wp2_with fail
  refine (HLC.out w2 HST2.out).mono ?_
  rintro e w3 ⟨rfl, hb3, hst3⟩
  have HST3 := Lib.hid hst3
  rw [HLN.out] at HST3
  have HB3 := Lib.hid (HB2.out.trans hb3)
  clear hb3 hst3
  go_wp2_with fail
  go_end0
  exact ⟨rfl, HB3.out, HST3.out⟩
end Go.Proofs.YtgmnbdfbbcpciaaGreatDoor
namespace Go.Proofs.YtgmnbdfbbcpciaaGreatDoor
open Go.RowKit Go.Lib
set_option linter.unusedVariables false

set_option maxRecDepth 100000 in
set_option maxHeartbeats 2000000 in
theorem block_do (W : Nat) (acc : List UInt8) (d : Nat) (ln : Int) (s : ByteArray) (k n : Int) (t : ByteArray) (v : VL) (sub : NL) (A : Option Addr) (c : Nat) (ea : Nat → Addr) (w : World) (hsh : ShAt w ea) (hst : LnSt w W acc) (hd : d ≤ 5000) (ha : acc.length ≤ 100000000000000)
    (hex : ExN sub) (hone : sub.len = 1) (htot : sub.tot ≤ 4096) (hc : 1 ≤ c) (hrep : RpN w (fun b => b < w.heap.size) (node1 40 ln s k n t v sub) A) :
    Calls Tryz.prog 11 #[.pointer (some ⟨W, 0, none⟩), .int .i64 (d : Int), .slice A 1 c] w
      fun e w' => e = .returned (.tuple #[]) ∧ Below W w w' ∧ LnSt w' W (acc ++ lineT d (((ntx sub).getD 0 default).b ++ [59])) := by
  have hlt := hst.lt
  obtain ⟨b, o, va, vc, sa, sc, hA, hSb, c0, c1, c2, c3, c4, c5, c6, hvc, hv, c7, hsc, hs, -⟩ := hrep
  obtain ⟨wa, hwa⟩ : ∃ wa, wa = w.alloc (.cells #[.int .i64 40, .int .i64 ln, .string s, .int .i64 k, .int .i64 n, .string t, .slice va v.len vc, .slice sa sub.len sc] 33) := ⟨_, rfl⟩
  have hb : Below w.heap.size w wa := by rw [hwa]; exact (Below.refl _ _).alloc (Nat.le_refl _) _
  have hN1 : NdB wa w.heap.size (.int .i64 40) (.int .i64 ln) (.string s) (.int .i64 k) (.int .i64 n) (.string t) (.slice va v.len vc) (.slice sa sub.len sc) := by rw [hwa]; exact NdB.new _ _ _ _ _ _ _ _ _
  have v0 := hN1.c0; have v1 := hN1.c1; have v2 := hN1.c2; have v3 := hN1.c3; have v4 := hN1.c4; have v5 := hN1.c5; have v6 := hN1.c6; have v7 := hN1.c7
  rw [hwa] at v0 v1 v2 v3 v4 v5 v6 v7
  have SD := Lib.hid (stmt_do W acc d ln s k n t v va vc sub sa sc ea wa (hsh.below hb) (hst.below hb) hd ha
    ⟨hex, hone, htot, hvc, hsc, hv.keep (fun b hlt => hb.block b hlt) (fun b hlt => Nat.lt_of_lt_of_le hlt hb.size), hs.keep (fun b hlt => hb.block b hlt) (fun b hlt => Nat.lt_of_lt_of_le hlt hb.size)⟩)
  have HB := Lib.hid hb
  have HWA := Lib.hid hwa
  subst hA
  clear hb hN1 hwa hsh hst hv hs hone
  go_enter Tryz.func11, Tryz.ntmps11
  go_wp2_with fail
  go_loopg [10] 1 (fun kk v wr => ∃ (i : Nat), v = .int .i64 i ∧ i + kk = 1 ∧ (i = 0 → wr = w) ∧ (i = 1 → Hid (Below W w wr) ∧ Hid (LnSt wr W (acc ++ lineT d (((ntx sub).getD 0 default).b ++ [59])))))
  case atStart => exact ⟨0, rfl, rfl, fun _ => rfl, fun h => by omega⟩
  case round =>
    obtain ⟨i, rfl, hik, h0, h1⟩ := hrel
    by_cases hi : i = 0
    · obtain ⟨g, rfl⟩ : ∃ g, gk = g + 1 := ⟨gk - 1, by omega⟩
      have hw0 := h0 hi
      subst hw0
      subst hi
      clear h0 h1
      go_wp2_with fail
      rw [← HWA.out]
      refine SD.out.mono ?_
      rintro e w3 ⟨rfl, hb3, hst3⟩
      have HST3 := Lib.hid hst3
      have HB3 := Lib.hid ((below_le' HB.out (Nat.le_of_lt hlt)).trans hb3)
      clear hb3 hst3
      go_wp2_with fail
      go_roundg g
      case measure => omega
      case rel => exact ⟨1, by go_num, by omega, fun h => by omega, fun _ => ⟨HB3.out, HST3.out⟩⟩
    · obtain rfl : i = 1 := by omega
      obtain ⟨hb1, hs1⟩ := h1 rfl
      have HB1 := Lib.hid hb1.out
      have HS1 := Lib.hid hs1.out
      clear h0 h1 hb1 hs1
      go_wp2_with fail
      go_end0
      exact ⟨rfl, HB1.out, HS1.out⟩

/-- What was written, as a text. -/
theorem ln_text {w : World} {W : Nat} {acc : List UInt8} (h : LnSt w W acc) (hne : acc ≠ []) : ∃ g cap, w.cell? ⟨W, 0, none⟩ = some (.slice (some ⟨g, 0, none⟩) acc.length cap) ∧ (convert 41 9 (.slice (some ⟨g, 0, none⟩) acc.length cap)).run Tryz.prog w = .ok (.string (bs acc)) w := by
  obtain ⟨v, hW, ho⟩ := h
  rcases ho.2 with ⟨_, h0⟩ | ⟨g, cap, cur, hv, hbg, hh, hn, hcm, hcs, ht⟩
  · rw [bs_size] at h0
    exact absurd (List.eq_nil_of_length_eq_zero h0) hne
  · subst hv
    refine ⟨g, cap, cell_of_row w W 0 _ _ _ hW, ?_⟩
    refine run_convert_bytes_back w _ _ 5 ⟨g, 0, none⟩ cap acc Tryz.underlying41 Tryz.underlying5 Tryz.underlying9 (fun j hj => ?_)
    refine ho.cells (g := g) rfl j _ ?_
    show (strCells (bs acc))[j]? = _
    unfold strCells
    rw [List.getElem?_map]
    show (acc.toArray.toList[j]?).map _ = _
    rw [List.toList_toArray, List.getElem?_eq_getElem hj]; rfl

set_option maxRecDepth 100000 in
set_option maxHeartbeats 2000000 in
theorem program_do (ln : Int) (s : ByteArray) (k n : Int) (t : ByteArray) (v : VL) (sub : NL) (A : Option Addr) (c : Nat) (ea : Nat → Addr) (w : World) (hsh : ShAt w ea) (hfit : (node1 40 ln s k n t v sub).fit) (hex : ExN sub) (hone : sub.len = 1) (htot : sub.tot ≤ 4096) (hc : 1 ≤ c)
    (hrep : RpN w (fun b => b < w.heap.size) (node1 40 ln s k n t v sub) A) (hright : rightN (node1 40 ln s k n t v sub) 7 = true) :
    Calls Tryz.prog 6 #[.slice A 1 c] w fun e w' => e = .returned (.tuple #[.string (bs (lineT 0 (((ntx sub).getD 0 default).b ++ [59]))), .nilIface]) ∧ Below w.heap.size w w' := by
  have VC := Lib.hid (Valid_tc (node1 40 ln s k n t v sub) A c ea w hsh.err hfit (show 1 ≤ 140737488351232 by decide) hc hrep)
  have HRT := Lib.hid hright
  have HSH := Lib.hid hsh
  have HRP := Lib.hid hrep
  clear hright hsh hrep
  go_enter Tryz.func6, Tryz.ntmps6
  go_wp2_with fail
  refine VC.out.mono ?_
  intro e w2 hp
  obtain ⟨hb2, rfl⟩ := hp.right HRT.out
  obtain ⟨w3, hw3⟩ : ∃ w3, w3 = w2.alloc (.cells #[.slice none 0 0] 43) := ⟨_, rfl⟩
  have hb3 : Below w2.heap.size w2 w3 := by rw [hw3]; exact (Below.refl _ _).alloc (Nat.le_refl _) _
  have hb23 := hb2.trans (below_le' hb3 hb2.size)
  have hln : LnSt w3 w2.heap.size [] := ⟨.slice none 0 0, by rw [hw3]; exact heap_alloc_new w2 _, World.ownsRow_nil _ _ _ _⟩
  have BD := Lib.hid (block_do w2.heap.size [] 0 ln s k n t v sub A c ea w3 (HSH.out.below hb23) hln (by decide) (by decide) hex hone htot hc (HRP.out.keep (fun b hlt => hb23.block b hlt) (fun b hlt => Nat.lt_of_lt_of_le hlt hb23.size)))
  have HW3 := Lib.hid hw3
  have HB23 := Lib.hid hb23
  have hz2 := hb2.size
  have hz3 := hb3.size
  have HB2 := Lib.hid hb2
  have HB3 := Lib.hid hb3
  clear hp hb2 hw3 hb3 hb23 hln
  go_wp2_with fail
  rw [← HW3.out]
  refine BD.out.mono ?_
  rintro e w4 ⟨rfl, hb4, hst4⟩
  obtain ⟨g, cap, hcell, hconv⟩ := ln_text hst4 (by simp [lineT])
  have hlt4 := hst4.lt
  have HB4 := Lib.hid (HB2.out.trans (below_le' ((below_le' HB3.out (Nat.le_refl _)).trans hb4) hz2))
  rw [List.nil_append] at hcell hconv
  obtain ⟨txt, htxt⟩ : ∃ txt, txt = lineT 0 (((ntx sub).getD 0 default).b ++ [59]) := ⟨_, rfl⟩
  rw [← htxt] at hcell hconv
  have HTX := Lib.hid htxt
  clear hb4 hst4 htxt
  go_wp2_with fail
  go_ret2
  exact ⟨by rw [← HTX.out]; rfl, HB4.out⟩
end Go.Proofs.YtgmnbdfbbcpciaaGreatDoor
namespace Go.Proofs.YtgmnbdfbbcpciaaGreatDoor
open Go.RowKit Go.Lib
set_option linter.unusedVariables false

theorem stmt_step {N : Nat} (hB : BlockC N) : StmtC (N + 1) := by
  intro op ln s k n t v va vc sub sa sc loop d W acc ea w hN hsh hst hW hbig hin
  have hA := around_of hB
  have hI := ifs_of hB
  have ho := stmt_ops (ownN_zero hin.own).1
  have hk : op = 40 ∨ op = 41 ∨ op = 42 ∨ op = 43 ∨ op = 44 ∨ op = 45 ∨ op = 46 ∨ op = 47 ∨ op = 48 ∨ op = 49 ∨ op = 51 := by omega
  rcases hk with rfl | rfl | rfl | rfl | rfl | rfl | rfl | rfl | rfl | rfl | rfl
  · exact stmt_40 ln s k n t v va vc sub sa sc loop d W acc ea w hsh hst hW hbig hin
  · exact stmt_41 hI ln s k n t v va vc sub sa sc loop d W acc ea w (by omega) hsh hst hW hbig hin
  · exact stmt_42 hA ln s k n t v va vc sub sa sc loop d W acc ea w (by omega) hsh hst hW hbig hin
  · exact stmt_43 hA ln s k n t v va vc sub sa sc loop d W acc ea w (by omega) hsh hst hW hbig hin
  · exact stmt_44 hA ln s k n t v va vc sub sa sc loop d W acc ea w (by omega) hsh hst hW hbig hin
  · exact stmt_45 ln s k n t v va vc sub sa sc loop d W acc ea w hst hbig hin
  · exact stmt_46 ln s k n t v va vc sub sa sc loop d W acc ea w hst hbig hin
  · exact stmt_47 ln s k n t v va vc sub sa sc loop d W acc ea w hsh hst hW hbig hin
  · exact stmt_48 hA ln s k n t v va vc sub sa sc loop d W acc ea w (by omega) hsh hst hW hbig hin
  · exact stmt_49 hB ln s k n t v va vc sub sa sc loop d W acc ea w (by omega) hsh hst hW hbig hin
  · exact stmt_51 hB hA ln s k n t v va vc sub sa sc loop d W acc ea w (by omega) hsh hst hW hbig hin
theorem stmt_all : ∀ N : Nat, StmtC N
  | 0 => by intro op ln s k n t v va vc sub sa sc loop d W acc ea w hN; omega
  | N + 1 => stmt_step (block_of (stmt_all N))
theorem block_all (N : Nat) : BlockC N := block_of (stmt_all N)

/-- What was written, as a text; nothing, too. -/
theorem ln_text0 {w : World} {W : Nat} (h : LnSt w W []) : ∃ v, w.cell? ⟨W, 0, none⟩ = some v ∧ (convert 41 9 v).run Tryz.prog w = .ok (.string (bs [])) w := by
  obtain ⟨v, hW, ho⟩ := h
  refine ⟨v, cell_of_row w W 0 _ _ _ hW, ?_⟩
  rcases ho.2 with ⟨h1, h0⟩ | ⟨g, cap, cur, hv, hbg, hh, hn, hcm, hcs, ht⟩
  · subst h1; kernel_rfl
  · subst hv
    refine run_convert_bytes_back w _ _ 5 ⟨g, 0, none⟩ cap [] Tryz.underlying41 Tryz.underlying5 Tryz.underlying9 (fun j hj => by simp at hj)
theorem ln_text1 {w : World} {W : Nat} {acc : List UInt8} (h : LnSt w W acc) : ∃ v, w.cell? ⟨W, 0, none⟩ = some v ∧ (convert 41 9 v).run Tryz.prog w = .ok (.string (bs acc)) w := by
  by_cases h0 : acc = []
  · subst h0; exact ln_text0 h
  · obtain ⟨g, cap, h1, h2⟩ := ln_text h h0
    exact ⟨_, h1, h2⟩

set_option maxRecDepth 100000 in
set_option maxHeartbeats 2000000 in
/-- Program, of any right program: its text. -/
theorem program_c (l : NL) (A : Option Addr) (c : Nat) (ea : Nat → Addr) (w : World) (hsh : ShAt w ea) (hfit : l.fit) (h64 : l.i64) (hlen : l.len ≤ 140737488351232) (hc : l.len ≤ c) (hrep : RpN w (fun b => b < w.heap.size) l A) (hright : rightN l 7 = true) :
    Calls Tryz.prog 6 #[.slice A l.len c] w fun e w' => e = .returned (.tuple #[.string (bs (progT l)), .nilIface]) ∧ Below w.heap.size w w' := by
  have VC := Lib.hid (Valid_tc l A c ea w hsh.err hfit hlen hc hrep)
  have hright' := hright
  simp only [rightN, Bool.and_eq_true, decide_eq_true_eq, Option.isNone_iff_eq_none] at hright'
  have HRT := Lib.hid hright
  have HSH := Lib.hid hsh
  have HRP := Lib.hid hrep
  have hroom : 10 < w.heap.size := hsh.err.room
  clear hright hsh hrep
  go_enter Tryz.func6, Tryz.ntmps6
  go_wp2_with fail
  refine VC.out.mono ?_
  intro e w2 hp
  obtain ⟨hb2, rfl⟩ := hp.right HRT.out
  obtain ⟨w3, hw3⟩ : ∃ w3, w3 = w2.alloc (.cells #[.slice none 0 0] 43) := ⟨_, rfl⟩
  have hb3 : Below w2.heap.size w2 w3 := by rw [hw3]; exact (Below.refl _ _).alloc (Nat.le_refl _) _
  have hb23 := hb2.trans (below_le' hb3 hb2.size)
  have hln : LnSt w3 w2.heap.size [] := ⟨.slice none 0 0, by rw [hw3]; exact heap_alloc_new w2 _, World.ownsRow_nil _ _ _ _⟩
  have hz2 := hb2.size
  have BD := Lib.hid (block_all l.tot l A c false 0 w2.heap.size [] ea w3 (Nat.le_refl _) (HSH.out.below hb23) hln (by omega) (by unfold Big; show 0 + _ ≤ _; omega) hright'.1.1 (by omega) hfit h64 hc hright'.2 (HRP.out.keep (fun b hlt => hb23.block b hlt) (fun b hlt => Nat.lt_of_lt_of_le hlt hz2)))
  have HW3 := Lib.hid hw3
  have HLN := Lib.hid hln
  have HB23 := Lib.hid hb23
  have hz3 := hb3.size
  have HB2 := Lib.hid hb2
  have HB3 := Lib.hid hb3
  clear hp hb2 hw3 hb3 hb23 hln hright'
  go_wp2_with fail
  rw [← HW3.out]
  refine BD.out.mono ?_
  rintro e w4 ⟨rfl, hk4, hst4⟩
  rw [List.nil_append] at hst4
  obtain ⟨v, hcell, hconv⟩ := ln_text1 hst4
  have hb4 := hk4.belowW HLN.out
  have HB4 := Lib.hid (HB2.out.trans (below_le' ((below_le' HB3.out (Nat.le_refl _)).trans hb4) hz2))
  obtain ⟨txt, htxt⟩ : ∃ txt, txt = stsT l 0 := ⟨_, rfl⟩
  rw [← htxt] at hconv
  have HTX := Lib.hid (show txt = progT l from htxt)
  clear hb4 hk4 hst4 htxt
  go_wp2_with fail
  go_ret2
  exact ⟨by rw [← HTX.out]; rfl, HB4.out⟩
end Go.Proofs.YtgmnbdfbbcpciaaGreatDoor
namespace Go.Proofs.YtgmnbdfbbcpciaaGreatDoor
open Go.RowKit Go.Lib
set_option linter.unusedVariables false

theorem rp1 {w : World} {S : Nat → Prop} {b : Nat} {op ln : Int} {s : ByteArray} {k n : Int} {t : ByteArray} {sub : NL} {sa : Option Addr} {sc : Nat}
    (h : w.heap[b]? = some (.cells #[.int .i64 op, .int .i64 ln, .string s, .int .i64 k, .int .i64 n, .string t, .slice none 0 0, .slice sa sub.len sc] 33 (0, 0))) (hS : S b) (hc : sub.len ≤ sc) (hr : RpN w S sub sa) :
    RpN w S (.cons op ln s k n t .nil sub .nil) (some ⟨b, 0, none⟩) :=
  ⟨b, 0, none, 0, sa, sc, rfl, hS, cell_of_row w b 0 _ _ _ h, cell_of_row w b 1 _ _ _ h, cell_of_row w b 2 _ _ _ h, cell_of_row w b 3 _ _ _ h, cell_of_row w b 4 _ _ _ h, cell_of_row w b 5 _ _ _ h, cell_of_row w b 6 _ _ _ h, Nat.le_refl _, trivial, cell_of_row w b 7 _ _ _ h, hc, hr, trivial⟩
theorem rp2 {w : World} {S : Nat → Prop} {b : Nat} {op ln : Int} {s : ByteArray} {k n : Int} {t : ByteArray} {sub : NL} {sa : Option Addr} {sc : Nat} {op' ln' : Int} {s' : ByteArray} {k' n' : Int} {t' : ByteArray} {sub' : NL} {sa' : Option Addr} {sc' : Nat}
    (h : w.heap[b]? = some (.cells #[.int .i64 op, .int .i64 ln, .string s, .int .i64 k, .int .i64 n, .string t, .slice none 0 0, .slice sa sub.len sc, .int .i64 op', .int .i64 ln', .string s', .int .i64 k', .int .i64 n', .string t', .slice none 0 0, .slice sa' sub'.len sc'] 33 (0, 0)))
    (hS : S b) (hc : sub.len ≤ sc) (hr : RpN w S sub sa) (hc' : sub'.len ≤ sc') (hr' : RpN w S sub' sa') :
    RpN w S (.cons op ln s k n t .nil sub (.cons op' ln' s' k' n' t' .nil sub' .nil)) (some ⟨b, 0, none⟩) :=
  ⟨b, 0, none, 0, sa, sc, rfl, hS, cell_of_row w b 0 _ _ _ h, cell_of_row w b 1 _ _ _ h, cell_of_row w b 2 _ _ _ h, cell_of_row w b 3 _ _ _ h, cell_of_row w b 4 _ _ _ h, cell_of_row w b 5 _ _ _ h, cell_of_row w b 6 _ _ _ h, Nat.le_refl _, trivial, cell_of_row w b 7 _ _ _ h, hc, hr,
    b, 8, none, 0, sa', sc', rfl, hS, cell_of_row w b 8 _ _ _ h, cell_of_row w b 9 _ _ _ h, cell_of_row w b 10 _ _ _ h, cell_of_row w b 11 _ _ _ h, cell_of_row w b 12 _ _ _ h, cell_of_row w b 13 _ _ _ h, cell_of_row w b 14 _ _ _ h, Nat.le_refl _, trivial, cell_of_row w b 15 _ _ _ h, hc', hr', trivial⟩

theorem first1_c (k : Int) (w : World) : Calls Tryz.prog 7 #[.int .i64 k] w fun e w' => e = .returned (.agg #[.int .i64 1, .int .i64 0, .string ⟨#[]⟩, .int .i64 0, .int .i64 k, .string ⟨#[]⟩, .slice none 0 0, .slice none 0 0]) ∧ w.alloc (.cells #[.int .i64 1, .int .i64 0, .string ⟨#[]⟩, .int .i64 0, .int .i64 k, .string ⟨#[]⟩, .slice none 0 0, .slice none 0 0] 33) = w' := by
  go_enter Tryz.func7, Tryz.ntmps7
  go_wp2
  go_returns
  exact ⟨rfl, rfl⟩

/-- The chapter's example: what lies under its one statement. -/
def exSub : NL := .cons 27 0 ⟨#[]⟩ 0 0 ⟨#[]⟩ .nil (.cons 2 0 ⟨#[120]⟩ 0 0 ⟨#[]⟩ .nil .nil (.cons 7 0 ⟨#[]⟩ 0 0 ⟨#[]⟩ .nil (.cons 5 0 ⟨#[]⟩ 0 0 ⟨#[]⟩ .nil (.cons 1 0 ⟨#[]⟩ 0 1 ⟨#[]⟩ .nil .nil (.cons 1 0 ⟨#[]⟩ 0 2 ⟨#[]⟩ .nil .nil .nil)) (.cons 1 0 ⟨#[]⟩ 0 3 ⟨#[]⟩ .nil .nil .nil)) .nil)) .nil
set_option maxRecDepth 100000 in
theorem exSub_right : rightN (node1 40 0 ⟨#[]⟩ 0 0 ⟨#[]⟩ .nil exSub) 7 = true := by decide +kernel
set_option maxRecDepth 100000 in
theorem exSub_right0 : rightN exSub 0 = true := by decide +kernel
set_option maxRecDepth 100000 in
theorem exSub_text : lineT 0 (((ntx exSub).getD 0 default).b ++ [59]) = [120, 32, 61, 32, 40, 49, 32, 43, 32, 50, 41, 32, 42, 32, 51, 59, 10] := by decide +kernel
theorem exSub_fit : exSub.fit := by simp [exSub, NL.fit, VL.fit, VL.len, NL.len, ByteArray.size]
theorem exSub_i64 : exSub.i64 := by simp [exSub, NL.i64, VL.i64, val1]

set_option maxRecDepth 100000 in
set_option maxHeartbeats 2000000 in
theorem first8_c (ea : Nat → Addr) (w : World) (hsh : ShAt w ea) : Calls Tryz.prog 4 #[] w fun e w' => e = .returned (.bool true) ∧ Below w.heap.size w w' := by
  obtain ⟨w1, e1⟩ : ∃ w1, w1 = w.alloc (.cells #[.int .i64 1, .int .i64 0, .string ⟨#[]⟩, .int .i64 0, .int .i64 1, .string ⟨#[]⟩, .slice none 0 0, .slice none 0 0] 33) := ⟨_, rfl⟩
  have z1 : w1.heap.size = w.heap.size + 1 := by rw [e1, World.size_alloc]
  obtain ⟨w2, e2⟩ : ∃ w2, w2 = w1.alloc (.cells #[.int .i64 1, .int .i64 0, .string ⟨#[]⟩, .int .i64 0, .int .i64 2, .string ⟨#[]⟩, .slice none 0 0, .slice none 0 0] 33) := ⟨_, rfl⟩
  have z2 : w2.heap.size = w.heap.size + 1 + 1 := by rw [e2, World.size_alloc, z1]
  obtain ⟨w3, e3⟩ : ∃ w3, w3 = w2.alloc (.cells #[.int .i64 1, .int .i64 0, .string ⟨#[]⟩, .int .i64 0, .int .i64 1, .string ⟨#[]⟩, .slice none 0 0, .slice none 0 0, .int .i64 1, .int .i64 0, .string ⟨#[]⟩, .int .i64 0, .int .i64 2, .string ⟨#[]⟩, .slice none 0 0, .slice none 0 0] 33) := ⟨_, rfl⟩
  have z3 : w3.heap.size = w.heap.size + 1 + 1 + 1 := by rw [e3, World.size_alloc, z2]
  obtain ⟨w4, e4⟩ : ∃ w4, w4 = w3.alloc (.cells #[.int .i64 1, .int .i64 0, .string ⟨#[]⟩, .int .i64 0, .int .i64 3, .string ⟨#[]⟩, .slice none 0 0, .slice none 0 0] 33) := ⟨_, rfl⟩
  have z4 : w4.heap.size = w.heap.size + 1 + 1 + 1 + 1 := by rw [e4, World.size_alloc, z3]
  obtain ⟨w5, e5⟩ : ∃ w5, w5 = w4.alloc (.cells #[.int .i64 5, .int .i64 0, .string ⟨#[]⟩, .int .i64 0, .int .i64 0, .string ⟨#[]⟩, .slice none 0 0, .slice (some ⟨w.heap.size + 1 + 1, 0, none⟩) 2 2, .int .i64 1, .int .i64 0, .string ⟨#[]⟩, .int .i64 0, .int .i64 3, .string ⟨#[]⟩, .slice none 0 0, .slice none 0 0] 33) := ⟨_, rfl⟩
  have z5 : w5.heap.size = w.heap.size + 1 + 1 + 1 + 1 + 1 := by rw [e5, World.size_alloc, z4]
  obtain ⟨w6, e6⟩ : ∃ w6, w6 = w5.alloc (.cells #[.int .i64 7, .int .i64 0, .string ⟨#[]⟩, .int .i64 0, .int .i64 0, .string ⟨#[]⟩, .slice none 0 0, .slice (some ⟨w.heap.size + 1 + 1 + 1 + 1, 0, none⟩) 2 2] 33) := ⟨_, rfl⟩
  have z6 : w6.heap.size = w.heap.size + 1 + 1 + 1 + 1 + 1 + 1 := by rw [e6, World.size_alloc, z5]
  obtain ⟨w7, e7⟩ : ∃ w7, w7 = w6.alloc (.cells #[.int .i64 2, .int .i64 0, .string ⟨#[120]⟩, .int .i64 0, .int .i64 0, .string ⟨#[]⟩, .slice none 0 0, .slice none 0 0, .int .i64 7, .int .i64 0, .string ⟨#[]⟩, .int .i64 0, .int .i64 0, .string ⟨#[]⟩, .slice none 0 0, .slice (some ⟨w.heap.size + 1 + 1 + 1 + 1, 0, none⟩) 2 2] 33) := ⟨_, rfl⟩
  have z7 : w7.heap.size = w.heap.size + 1 + 1 + 1 + 1 + 1 + 1 + 1 := by rw [e7, World.size_alloc, z6]
  obtain ⟨w8, e8⟩ : ∃ w8, w8 = w7.alloc (.cells #[.int .i64 27, .int .i64 0, .string ⟨#[]⟩, .int .i64 0, .int .i64 0, .string ⟨#[]⟩, .slice none 0 0, .slice (some ⟨w.heap.size + 1 + 1 + 1 + 1 + 1 + 1, 0, none⟩) 2 2] 33) := ⟨_, rfl⟩
  have z8 : w8.heap.size = w.heap.size + 1 + 1 + 1 + 1 + 1 + 1 + 1 + 1 := by rw [e8, World.size_alloc, z7]
  obtain ⟨w9, e9⟩ : ∃ w9, w9 = w8.alloc (.cells #[.int .i64 40, .int .i64 0, .string ⟨#[]⟩, .int .i64 0, .int .i64 0, .string ⟨#[]⟩, .slice none 0 0, .slice (some ⟨w.heap.size + 1 + 1 + 1 + 1 + 1 + 1 + 1, 0, none⟩) 1 1] 33) := ⟨_, rfl⟩
  have z9 : w9.heap.size = w.heap.size + 1 + 1 + 1 + 1 + 1 + 1 + 1 + 1 + 1 := by rw [e9, World.size_alloc, z8]
  have h2 : w9.heap[w.heap.size + 1 + 1]? = some (.cells #[.int .i64 1, .int .i64 0, .string ⟨#[]⟩, .int .i64 0, .int .i64 1, .string ⟨#[]⟩, .slice none 0 0, .slice none 0 0, .int .i64 1, .int .i64 0, .string ⟨#[]⟩, .int .i64 0, .int .i64 2, .string ⟨#[]⟩, .slice none 0 0, .slice none 0 0] 33 (0, 0)) := by rw [e9, Below.heap_alloc _ _ _ (by omega), e8, Below.heap_alloc _ _ _ (by omega), e7, Below.heap_alloc _ _ _ (by omega), e6, Below.heap_alloc _ _ _ (by omega), e5, Below.heap_alloc _ _ _ (by omega), e4, Below.heap_alloc _ _ _ (by omega), e3]; have h := heap_alloc_new w2 (.cells #[.int .i64 1, .int .i64 0, .string ⟨#[]⟩, .int .i64 0, .int .i64 1, .string ⟨#[]⟩, .slice none 0 0, .slice none 0 0, .int .i64 1, .int .i64 0, .string ⟨#[]⟩, .int .i64 0, .int .i64 2, .string ⟨#[]⟩, .slice none 0 0, .slice none 0 0] 33); rw [z2] at h; exact h
  have h4 : w9.heap[w.heap.size + 1 + 1 + 1 + 1]? = some (.cells #[.int .i64 5, .int .i64 0, .string ⟨#[]⟩, .int .i64 0, .int .i64 0, .string ⟨#[]⟩, .slice none 0 0, .slice (some ⟨w.heap.size + 1 + 1, 0, none⟩) 2 2, .int .i64 1, .int .i64 0, .string ⟨#[]⟩, .int .i64 0, .int .i64 3, .string ⟨#[]⟩, .slice none 0 0, .slice none 0 0] 33 (0, 0)) := by rw [e9, Below.heap_alloc _ _ _ (by omega), e8, Below.heap_alloc _ _ _ (by omega), e7, Below.heap_alloc _ _ _ (by omega), e6, Below.heap_alloc _ _ _ (by omega), e5]; have h := heap_alloc_new w4 (.cells #[.int .i64 5, .int .i64 0, .string ⟨#[]⟩, .int .i64 0, .int .i64 0, .string ⟨#[]⟩, .slice none 0 0, .slice (some ⟨w.heap.size + 1 + 1, 0, none⟩) 2 2, .int .i64 1, .int .i64 0, .string ⟨#[]⟩, .int .i64 0, .int .i64 3, .string ⟨#[]⟩, .slice none 0 0, .slice none 0 0] 33); rw [z4] at h; exact h
  have h6 : w9.heap[w.heap.size + 1 + 1 + 1 + 1 + 1 + 1]? = some (.cells #[.int .i64 2, .int .i64 0, .string ⟨#[120]⟩, .int .i64 0, .int .i64 0, .string ⟨#[]⟩, .slice none 0 0, .slice none 0 0, .int .i64 7, .int .i64 0, .string ⟨#[]⟩, .int .i64 0, .int .i64 0, .string ⟨#[]⟩, .slice none 0 0, .slice (some ⟨w.heap.size + 1 + 1 + 1 + 1, 0, none⟩) 2 2] 33 (0, 0)) := by rw [e9, Below.heap_alloc _ _ _ (by omega), e8, Below.heap_alloc _ _ _ (by omega), e7]; have h := heap_alloc_new w6 (.cells #[.int .i64 2, .int .i64 0, .string ⟨#[120]⟩, .int .i64 0, .int .i64 0, .string ⟨#[]⟩, .slice none 0 0, .slice none 0 0, .int .i64 7, .int .i64 0, .string ⟨#[]⟩, .int .i64 0, .int .i64 0, .string ⟨#[]⟩, .slice none 0 0, .slice (some ⟨w.heap.size + 1 + 1 + 1 + 1, 0, none⟩) 2 2] 33); rw [z6] at h; exact h
  have h7 : w9.heap[w.heap.size + 1 + 1 + 1 + 1 + 1 + 1 + 1]? = some (.cells #[.int .i64 27, .int .i64 0, .string ⟨#[]⟩, .int .i64 0, .int .i64 0, .string ⟨#[]⟩, .slice none 0 0, .slice (some ⟨w.heap.size + 1 + 1 + 1 + 1 + 1 + 1, 0, none⟩) 2 2] 33 (0, 0)) := by rw [e9, Below.heap_alloc _ _ _ (by omega), e8]; have h := heap_alloc_new w7 (.cells #[.int .i64 27, .int .i64 0, .string ⟨#[]⟩, .int .i64 0, .int .i64 0, .string ⟨#[]⟩, .slice none 0 0, .slice (some ⟨w.heap.size + 1 + 1 + 1 + 1 + 1 + 1, 0, none⟩) 2 2] 33); rw [z7] at h; exact h
  have h8 : w9.heap[w.heap.size + 1 + 1 + 1 + 1 + 1 + 1 + 1 + 1]? = some (.cells #[.int .i64 40, .int .i64 0, .string ⟨#[]⟩, .int .i64 0, .int .i64 0, .string ⟨#[]⟩, .slice none 0 0, .slice (some ⟨w.heap.size + 1 + 1 + 1 + 1 + 1 + 1 + 1, 0, none⟩) 1 1] 33 (0, 0)) := by rw [e9]; have h := heap_alloc_new w8 (.cells #[.int .i64 40, .int .i64 0, .string ⟨#[]⟩, .int .i64 0, .int .i64 0, .string ⟨#[]⟩, .slice none 0 0, .slice (some ⟨w.heap.size + 1 + 1 + 1 + 1 + 1 + 1 + 1, 0, none⟩) 1 1] 33); rw [z8] at h; exact h
  have hb : Below w.heap.size w w9 := by
    rw [e9, e8, e7, e6, e5, e4, e3, e2, e1]
    exact ((((((((((Below.refl _ _).alloc (by simp; try omega) _).alloc (by simp; try omega) _).alloc (by simp; try omega) _).alloc (by simp; try omega) _).alloc (by simp; try omega) _).alloc (by simp; try omega) _).alloc (by simp; try omega) _).alloc (by simp; try omega) _).alloc (by simp; try omega) _)
  have r2 := rp2 (S := fun b => b < w9.heap.size) (sub := .nil) (sub' := .nil) h2 (by omega) (Nat.le_refl _) trivial (Nat.le_refl _) trivial
  have r4 := rp2 (S := fun b => b < w9.heap.size) (sub' := .nil) h4 (by omega) (Nat.le_refl 2) r2 (Nat.le_refl _) trivial
  have r6 := rp2 (S := fun b => b < w9.heap.size) (sub := .nil) h6 (by omega) (Nat.le_refl _) trivial (Nat.le_refl 2) r4
  have r7 := rp1 (S := fun b => b < w9.heap.size) h7 (by omega) (Nat.le_refl 2) r6
  have r8 := rp1 (S := fun b => b < w9.heap.size) h8 (by omega) (Nat.le_refl 1) r7
  obtain ⟨hex, htot⟩ := right_ex exSub_fit exSub_i64 exSub_right0
  have PD := Lib.hid (program_do 0 ⟨#[]⟩ 0 0 ⟨#[]⟩ .nil exSub (some ⟨w.heap.size + 1 + 1 + 1 + 1 + 1 + 1 + 1 + 1, 0, none⟩) 1 ea w9 (hsh.below hb) ⟨by decide, by decide, by decide, trivial, by decide, exSub_fit, trivial⟩ hex rfl htot (Nat.le_refl 1) r8 exSub_right)
  rw [exSub_text, show bs [120, 32, 61, 32, 40, 49, 32, 43, 32, 50, 41, 32, 42, 32, 51, 59, 10] = ⟨#[120, 32, 61, 32, 40, 49, 32, 43, 32, 50, 41, 32, 42, 32, 51, 59, 10]⟩ from rfl] at PD
  have HB := Lib.hid hb
  have E1 := Lib.hid e1
  have E2 := Lib.hid e2
  have E3 := Lib.hid e3
  have E4 := Lib.hid e4
  have E5 := Lib.hid e5
  have E6 := Lib.hid e6
  have E7 := Lib.hid e7
  have E8 := Lib.hid e8
  have E9 := Lib.hid e9
  clear hsh hb h2 h4 h6 h7 h8 r2 r4 r6 r7 r8 hex htot e1 e2 e3 e4 e5 e6 e7 e8 e9 z1 z2 z3 z4 z5 z6 z7 z8 z9
  go_enter Tryz.func4, Tryz.ntmps4
  go_wp2_with fail
  refine (first1_c 1 _).mono ?_
  rintro e w1 ⟨rfl, rfl⟩
  go_wp2_with fail
  refine (first1_c 2 _).mono ?_
  rintro e w1 ⟨rfl, rfl⟩
  go_wp2_with fail
  refine (first1_c 3 _).mono ?_
  rintro e w1 ⟨rfl, rfl⟩
  go_wp2_with fail
  rw [← E1.out, ← E2.out, ← E3.out, ← E4.out, ← E5.out, ← E6.out, ← E7.out, ← E8.out, ← E9.out]
  refine PD.out.mono ?_
  rintro e w9 ⟨rfl, hb9⟩
  have HB9 := Lib.hid (HB.out.trans (below_le' hb9 HB.out.size))
  clear hb9
  go_wp2_with fail
  go_ret
  exact ⟨rfl, HB9.out⟩
end Go.Proofs.YtgmnbdfbbcpciaaGreatDoor
namespace Go.Proofs.YtgmnbdfbbcpciaaGreatDoor

def EndsNl (x : List UInt8) : Prop := x = [] ∨ ∃ y, x = y ++ [10]
theorem EndsNl.app {a b : List UInt8} (ha : EndsNl a) (hb : EndsNl b) : EndsNl (a ++ b) := by
  rcases hb with rfl | ⟨y, rfl⟩
  · rw [List.append_nil]; exact ha
  · exact Or.inr ⟨a ++ y, by rw [List.append_assoc]⟩
theorem EndsNl.cond {c : Prop} [Decidable c] {a b : List UInt8} (ha : EndsNl a) (hb : EndsNl b) : EndsNl (if c then a else b) := by
  by_cases h : c
  · rw [if_pos h]; exact ha
  · rw [if_neg h]; exact hb
theorem ends_line (d : Nat) (s : List UInt8) : ∃ y, lineT d s = y ++ [10] := ⟨_, rfl⟩
theorem ends_app {b : List UInt8} (a : List UInt8) (hb : ∃ y, b = y ++ [10]) : ∃ y, a ++ b = y ++ [10] := by
  obtain ⟨y, rfl⟩ := hb
  exact ⟨a ++ y, by rw [List.append_assoc]⟩
theorem ends_ifs (d : Nat) : ∀ (w : List UInt8) (l : List STx), ∃ y, ifsT d w l = y ++ [10]
  | w, c :: b :: r => by rw [ifsT]; exact ends_app _ (ends_ifs d _ r)
  | _, [b] => by rw [ifsT]; exact ends_app _ (ends_line d _)
  | _, [] => by rw [ifsT]; exact ends_line d _
theorem ends_around (d : Nat) (h b t : List UInt8) : ∃ y, aroundT d h b t = y ++ [10] := ends_app _ (ends_line d _)
theorem ends_stmt (d : Nat) (op : Int) (s : List UInt8) (l : List STx) : EndsNl (stmtT d op s l) := by
  unfold stmtT
  exact .cond (Or.inr (ends_line d _)) (.cond (Or.inr (ends_line d _)) (.cond (Or.inr (ends_line d _)) (.cond (Or.inr (ends_line d _)) (.cond (Or.inr (ends_ifs d _ _))
    (.cond (Or.inr (ends_around d _ _ _)) (.cond (Or.inr (ends_around d _ _ _)) (.cond (Or.inr (ends_around d _ _ _)) (.cond (Or.inr (ends_around d _ _ _))
    (.cond (Or.inr (ends_app _ (ends_line d _))) (.cond (Or.inr (ends_app _ (ends_around d _ _ _))) (Or.inl rfl)))))))))))
theorem ends_stx : ∀ (a : NL) (d : Nat), EndsNl ((stx a d).map (·.st)).flatten
  | .nil, _ => Or.inl rfl
  | .cons op ln s k n t v sub r, d => by
    rw [stx, List.map_cons, List.flatten_cons]
    exact (ends_stmt d op _ _).app (ends_stx r d)
theorem ends_prog (a : NL) : EndsNl (progT a) := ends_stx a 0
end Go.Proofs.YtgmnbdfbbcpciaaGreatDoor
namespace Go.Proofs.YtgmnbdfbbcpciaaGreatDoor
open Go.RowKit Go.Lib
set_option linter.unusedVariables false

/-- Are two lists of values alike? -/
def sameL : VL → VL → Bool
  | .nil, .nil => true
  | .cons k n s a r, .cons k' n' s' a' r' => (sameL a a' && decide (k = k') && decide (n = n') && decide (s = s')) && sameL r r'
  | _, _ => false
/-- Are two values alike? -/
def same1 (k n : Int) (s : ByteArray) (a : VL) (k' n' : Int) (s' : ByteArray) (a' : VL) : Bool := sameL a a' && decide (k = k') && decide (n = n') && decide (s = s')
theorem sameL_iff : ∀ a b : VL, sameL a b = true ↔ a = b
  | .nil, .nil => by simp [sameL]
  | .nil, .cons .. => by simp [sameL]
  | .cons .., .nil => by simp [sameL]
  | .cons k n s a r, .cons k' n' s' a' r' => by
    rw [sameL, Bool.and_eq_true, Bool.and_eq_true, Bool.and_eq_true, Bool.and_eq_true, sameL_iff a a', sameL_iff r r', decide_eq_true_eq, decide_eq_true_eq, decide_eq_true_eq]
    constructor
    · rintro ⟨⟨⟨⟨rfl, rfl⟩, rfl⟩, rfl⟩, rfl⟩; rfl
    · intro h; injection h with h1 h2 h3 h4 h5; exact ⟨⟨⟨⟨h4, h1⟩, h2⟩, h3⟩, h5⟩
theorem same1_iff {k n : Int} {s : ByteArray} {a : VL} {k' n' : Int} {s' : ByteArray} {a' : VL} : same1 k n s a k' n' s' a' = true ↔ k = k' ∧ n = n' ∧ s = s' ∧ a = a' := by
  unfold same1
  rw [Bool.and_eq_true, Bool.and_eq_true, Bool.and_eq_true, sameL_iff, decide_eq_true_eq, decide_eq_true_eq, decide_eq_true_eq]
  constructor
  · rintro ⟨⟨⟨rfl, rfl⟩, rfl⟩, rfl⟩; exact ⟨rfl, rfl, rfl, rfl⟩
  · rintro ⟨rfl, rfl, rfl, rfl⟩; exact ⟨⟨⟨rfl, rfl⟩, rfl⟩, rfl⟩
theorem sameL_len : ∀ a b : VL, a.len ≠ b.len → sameL a b = false
  | a, b, h => by
    cases hq : sameL a b with
    | false => rfl
    | true => rw [(sameL_iff a b).1 hq] at h; exact absurd rfl h
theorem sameL_drop {a b : VL} {i : Nat} {k n : Int} {s : ByteArray} {x : VL} {k' n' : Int} {s' : ByteArray} {x' : VL} (ha : a.drop i = .cons k n s x (a.drop (i + 1))) (hb : b.drop i = .cons k' n' s' x' (b.drop (i + 1))) :
    sameL (a.drop i) (b.drop i) = (same1 k n s x k' n' s' x' && sameL (a.drop (i + 1)) (b.drop (i + 1))) := by rw [ha, hb]; rfl
end Go.Proofs.YtgmnbdfbbcpciaaGreatDoor
namespace Go.Proofs.YtgmnbdfbbcpciaaGreatDoor
open Go.RowKit Go.Lib
set_option linter.unusedVariables false

set_option maxHeartbeats 400000 in
theorem printed_c (s : ByteArray) (w : World) (hs : s.size ≤ 140737488351232) :
    Calls Tryz.prog 71 #[.string s] w fun e w' => e = .returned (.bool (prB s.data.toList)) ∧ w = w' := by
  go_enter Tryz.func71, Tryz.ntmps71
  go_wp2
  go_loop [3] (fun i => ∃ k : Nat, k ≤ s.size ∧ i = .int .i64 k ∧ Hid (prB (s.data.toList.take k) = true)) (fun i => s.size - (RowKit.intOf i).toNat)
  case atStart => exact ⟨0, Nat.zero_le _, rfl, rfl⟩
  case round =>
    obtain ⟨k, hk, rfl, hall⟩ := hrel
    by_cases hlt : k < s.size
    · have hts := Lib.hid (take_snoc s k hlt)
      go_wp2
      all_goals first
        | (go_ret
           exact ⟨ret_bool (prB_bad s k hlt (by omega)).symm, rfl⟩)
        | (refine ⟨⟨k + 1, by omega, by go_num, ?_⟩, by simp [RowKit.intOf]; omega⟩
           show prB _ = true
           have hx := hall.out
           unfold prB at hx ⊢
           rw [hts.out, List.all_append, hx, List.all_cons, show prC s[k] = true from decide_eq_true (by omega)]
           rfl)
    · obtain rfl : k = s.size := by omega
      go_wp2
      go_ret
      refine ⟨ret_bool ?_, rfl⟩
      have := hall.out
      rw [List.take_of_length_le (by simp)] at this
      exact this.symm

/-- The reference's count: one number in a block of its own. -/
def RwAt (w : World) (L : Nat) (n : Int) : Prop := w.heap[L]? = some (.cells #[.int .i64 n] 85 (0, 0))
section
variable {w w' : World} {L : Nat} {left : Int}
theorem RwAt.lt (h : RwAt w L left) : L < w.heap.size := by
  rcases Nat.lt_or_ge L w.heap.size with hlt | hge
  · exact hlt
  · unfold RwAt at h; rw [Array.getElem?_eq_none hge] at h; cases h
theorem RwAt.c0 (h : RwAt w L left) : w.cell? ⟨L, 0, none⟩ = some (.int .i64 left) := cell_of_row w L 0 _ _ _ h
theorem RwAt.fr (h : RwAt w L left) : w.frozen? ⟨L, 0, none⟩ = false := by unfold RwAt at h; simp [World.frozen?, h]
theorem RwAt.alloc (h : RwAt w L left) (o : Obj) : RwAt (w.alloc o) L left := (Below.heap_alloc w o L h.lt).trans h
theorem RwAt.set (h : RwAt w L left) (n : Int) : RwAt (w.setCell ⟨L, 0, none⟩ (.int .i64 n)) L n := by
  unfold RwAt at h ⊢; simp [World.setCell, Array.getElem?_modify, h]
theorem RwAt.below (h : RwAt w L left) {B : Nat} (hb : Below B w w') (hL : L < B) : RwAt w' L left := (hb.block L hL).trans h
theorem RwAt.new (W : World) (n : Int) : RwAt (W.alloc (.cells #[.int .i64 n] 85)) W.heap.size n := by unfold RwAt World.alloc; simp
end

/-- What a call of odd is to show. -/
def POdd (w : World) (L : Nat) (r : Nat × Int) (e : Ending) (w' : World) : Prop := e = .returned (.int .i64 r.1) ∧ (∃ m, RwAt w' L m ∧ (r.1 = 0 → m = 4096 - r.2)) ∧ w.grownBy w' (some L)

def OddC (N : Nat) : Prop := ∀ (k n : Int) (s : ByteArray) (sub : VL) (sa : Option Addr) (sc : Nat) (deep left : Int) (L : Nat) (w : World), sub.size < N → RwAt w L (4096 - left) →
  s.size ≤ 140737488351232 → sub.len ≤ 140737488351232 → sub.fit → sub.len ≤ sc → RpL w (fun b => b < w.heap.size ∧ b ≠ L) sub sa → 1 ≤ deep → deep ≤ 41 → 0 ≤ left → left ≤ 4096 →
  Calls Tryz.prog 53 #[.pointer (some ⟨L, 0, none⟩), .agg #[.int .i64 k, .int .i64 n, .string s, .slice sa sub.len sc], .int .i64 deep] w (POdd w L (walk1 k n s sub deep left))

/-- Out of the loop over the items. -/
theorem bne_of {a b : Int} (h : a ≠ b) : (a != b) = true ∧ (a == b) = false := by simp [h]

/-- Where odd goes on to look at a value's kind, and it is not a Str. -/
theorem kind_cases {k n : Int} {s : ByteArray} {len : Nat} (hk : k ≠ 2) :
    (ownE k n s len = 105 ∧ (k < 0 ∨ (0 ≤ k ∧ 4 < k) ∨ (k = 1 ∧ n < -2147483648) ∨ (k = 1 ∧ -2147483648 ≤ n ∧ 2147483647 < n) ∨ (k = 3 ∧ n < 0) ∨ (k = 3 ∧ 0 ≤ n ∧ 14 < n))) ∨
    (ownE k n s len = 103 ∧ ((k = 0 ∧ s.toList.isEmpty = false) ∨ (k = 0 ∧ s.toList.isEmpty = true ∧ 0 < len) ∨ (k = 1 ∧ -2147483648 ≤ n ∧ n ≤ 2147483647 ∧ s.toList.isEmpty = false) ∨ (k = 1 ∧ -2147483648 ≤ n ∧ n ≤ 2147483647 ∧ s.toList.isEmpty = true ∧ 0 < len) ∨
      (k = 3 ∧ 0 ≤ n ∧ n ≤ 14 ∧ s.toList.isEmpty = false) ∨ (k = 3 ∧ 0 ≤ n ∧ n ≤ 14 ∧ s.toList.isEmpty = true ∧ 0 < len) ∨ (k = 4 ∧ n ≠ 0) ∨ (k = 4 ∧ n = 0 ∧ s.toList.isEmpty = false))) ∨
    (ownE k n s len = 0 ∧ s = ⟨#[]⟩ ∧ ((k = 0 ∧ len = 0) ∨ (k = 1 ∧ -2147483648 ≤ n ∧ n ≤ 2147483647 ∧ len = 0) ∨ (k = 3 ∧ 0 ≤ n ∧ n ≤ 14 ∧ len = 0) ∨ (k = 4 ∧ n = 0))) := by
  have hse : (s.toList.isEmpty = true ∧ s.data.toList = [] ∧ s = ⟨#[]⟩) ∨ (s.toList.isEmpty = false ∧ s.data.toList ≠ []) := by
    rw [Lib.toList_data]
    rcases s with ⟨⟨l⟩⟩
    cases l with
    | nil => exact .inl ⟨rfl, rfl, rfl⟩
    | cons a r => exact .inr ⟨rfl, by simp⟩
  unfold ownE
  by_cases h1 : k < 0 ∨ 4 < k
  · rw [if_pos h1]; exact .inl ⟨rfl, by omega⟩
  rw [if_neg h1]
  by_cases h2 : k = 1 ∧ (n < -2147483648 ∨ 2147483647 < n)
  · rw [if_pos h2]; exact .inl ⟨rfl, by omega⟩
  rw [if_neg h2]
  by_cases h3 : k = 3 ∧ (n < 0 ∨ 14 < n)
  · rw [if_pos h3]; exact .inl ⟨rfl, by omega⟩
  rw [if_neg h3]
  right
  have hkk : k = 0 ∨ k = 1 ∨ k = 3 ∨ k = 4 := by omega
  rcases hse with ⟨e1, e2, e3⟩ | ⟨e1, e2⟩
  · by_cases h4 : k ≠ 4 ∧ 0 < len
    · rw [if_pos (.inr (.inl h4))]
      left; refine ⟨rfl, ?_⟩
      simp only [e1]; simp; omega
    · by_cases h5 : k = 4 ∧ n ≠ 0
      · rw [if_pos (.inr (.inr ⟨.inr h5.1, h5.2⟩))]
        left; refine ⟨rfl, ?_⟩
        simp only [e1]; simp; omega
      · rw [if_neg (by rintro (⟨_, h⟩ | h | ⟨h, h'⟩); exact h e2; exact h4 h; rcases h with h | h; exact hk h; exact h5 ⟨h, h'⟩), if_neg (by rw [e2]; decide)]
        right; exact ⟨rfl, e3, by omega⟩
  · rw [if_pos (.inl ⟨hk, e2⟩)]
    left; refine ⟨rfl, ?_⟩
    simp only [e1]; simp; omega
/-- The same of a Str. -/
theorem str_cases {n : Int} {s : ByteArray} {len : Nat} :
    (ownE 2 n s len = 103 ∧ (n ≠ 0 ∨ (n = 0 ∧ 0 < len))) ∨ (ownE 2 n s len = 103 ∧ n = 0 ∧ len = 0 ∧ prB s.data.toList = false) ∨ (ownE 2 n s len = 0 ∧ n = 0 ∧ len = 0 ∧ prB s.data.toList = true) := by
  unfold ownE
  rw [if_neg (by decide), if_neg (by rintro ⟨h, _⟩; cases h), if_neg (by rintro ⟨h, _⟩; cases h)]
  by_cases h : n ≠ 0 ∨ 0 < len
  · rw [if_pos (by rcases h with h | h; exact .inr (.inr ⟨.inl rfl, h⟩); exact .inr (.inl ⟨by decide, h⟩))]
    left; exact ⟨rfl, by omega⟩
  · rw [if_neg (by rintro (⟨h', _⟩ | ⟨_, h'⟩ | ⟨_, h'⟩); exact h' rfl; exact h (.inr h'); exact h (.inl h'))]
    right
    by_cases hp : prB s.data.toList = false
    · rw [if_pos hp]; left; exact ⟨rfl, by omega, by omega, hp⟩
    · rw [if_neg hp]; right; exact ⟨rfl, by omega, by omega, by simpa using hp⟩
end Go.Proofs.YtgmnbdfbbcpciaaGreatDoor
