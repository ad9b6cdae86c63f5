/- Contracts of the functions that the statement reaches, and the plain mathematics beneath: several texts joined. -/
import Derived.Lib.Split
import Derived.LaidEql
import Derived.Test.YtbalpfpcbckghaaGreatDoorFtxAL
import Derived.Test.YtbalpfpcbckghaaGreatDoorFtxAH
import Derived.Test.YtbalpfpcbckghaaGreatDoorFtxAJ
import Derived.Test.YtbalpfpcbckghaaGreatDoorFtxAF
namespace Go.Proofs.YtbalpfpcbckghaaGreatDoor
open Go.RowKit Go.Lib
set_option linter.unusedVariables false

theorem strV_drop : ∀ (l : List (List UInt8)) (i : Nat) (y : List UInt8), l[i]? = some y → (strV l).drop i = .cons 2 0 ⟨y.toArray⟩ .nil ((strV l).drop (i + 1)) := by
  intro l
  induction l with
  | nil => intro i y h; simp at h
  | cons z r ih =>
    intro i y h
    cases i with
    | zero => simp at h; subst h; rw [strV, VL.drop, VL.drop, VL.drop]
    | succ i => rw [strV, VL.drop, VL.drop]; exact ih i y (by simpa using h)
theorem strV_take (l : List (List UInt8)) (i : Nat) (x : List UInt8) (h : l[i]? = some x) : (strV (l.take i)).app (val1 2 0 ⟨x.toArray⟩ .nil) = strV (l.take (i + 1)) := by
  rw [strV_snoc]
  congr 1
  rw [List.take_add_one, h]; rfl

set_option maxRecDepth 100000 in
set_option maxHeartbeats 4000000 in
theorem call_words (s : ByteArray) (n : Int) (v r : VL) (A : Option Addr) (c : Nat) (w : World) (hs : s.size ≤ 1000000) (hm : MaxAt w) (hroom : 14 < w.heap.size) (hpl : (piecesS s).length = Lib.countB s spB + 1) (hp5 : (piecesS s).length ≤ 100000) (hc : r.len + 1 ≤ c) (hlen : r.len ≤ 100000)
    (hrep : RpL w (fun b => b < w.heap.size) (.cons 2 n s v r) A) (nm : ByteArray) (hnm : nm.data.toList = [119, 111, 114, 100, 115]) :
    Calls Tryz.prog 34 #[.string nm, .slice A (r.len + 1) c] w (PValC w 4 0 ⟨#[]⟩ (strV (wordsS s)) 0) := by
  obtain ⟨i0, hi0, hz0, hz1, hz2⟩ := info_parts val_info
  obtain ⟨b, o, sa, sc, rfl, hbS, c0, c1, c2, c3, hcl, hrs, -⟩ := id hrep
  obtain ⟨wa, hwa⟩ : ∃ wa, wa = w.alloc (.cells #[.int .i64 0, .int .i64 0, .string ⟨#[]⟩, .slice none 0 0] 24) := ⟨_, rfl⟩
  have hb : Below w.heap.size w wa := by rw [hwa]; exact (Below.refl _ _).alloc (Nat.le_refl _) _
  have hza : wa.heap.size = w.heap.size + 1 := by rw [hwa]; simp
  have hR : StB wa w.heap.size (.int .i64 0) (.int .i64 0) (.string ⟨#[]⟩) (.slice none 0 0) := by rw [hwa]; exact StB.new w _ _ _ _
  have x0 := (hb.cell (p := ⟨b, o, none⟩) hbS).trans c0
  have x1 := (hb.cell (p := ⟨b, o + 1, none⟩) hbS).trans c1
  have x2 := (hb.cell (p := ⟨b, o + 2, none⟩) hbS).trans c2
  have x3 := (hb.cell (p := ⟨b, o + 3, none⟩) hbS).trans c3
  rw [hwa] at x0 x1 x2 x3
  have HB := Lib.hid hb
  have HR := Lib.hid hR
  have HWA := Lib.hid hwa
  have k1 : 0 < r.len + 1 := by omega
  have k2 : ((0 : Int) < ((r.len + 1 : Nat) : Int)) := by omega
  have qtypeof := nmF hnm [116, 121, 112, 101, 111, 102] (by decide)
  have qlength := nmF hnm [108, 101, 110, 103, 116, 104] (by decide)
  have qtostr := nmF hnm [116, 111, 115, 116, 114] (by decide)
  have qtoliteral := nmF hnm [116, 111, 108, 105, 116, 101, 114, 97, 108] (by decide)
  have qtoint := nmF hnm [116, 111, 105, 110, 116] (by decide)
  have qtoobj := nmF hnm [116, 111, 111, 98, 106] (by decide)
  have qequal := nmF hnm [101, 113, 117, 97, 108] (by decide)
  have qsize := nmF hnm [115, 105, 122, 101] (by decide)
  have qabs := nmF hnm [97, 98, 115] (by decide)
  have qmin := nmF hnm [109, 105, 110] (by decide)
  have qmax := nmF hnm [109, 97, 120] (by decide)
  have qwords := nmT hnm
  have WC := Lib.hid (strWords_c s wa hs (hm.below hb (by omega)) hpl hp5)
  have hwl : (wordsS s).length ≤ 100000 := Nat.le_trans (List.length_filter_le _ _) hp5
  obtain ⟨ws, hws⟩ : ∃ ws, ws = wordsS s := ⟨_, rfl⟩
  rw [← hws] at WC hwl ⊢
  clear hb hR hwa hm hnm hrep hrs c0 c1 c2 c3 hws hpl hp5
  go_enter Tryz.func34, Tryz.ntmps34
  go_wp2_with fail
  rw [← HWA.out]
  refine WC.out.mono ?_
  rintro e w2 ⟨V2, rfl, hown2, hb2⟩
  obtain ⟨a2, cap2, rfl, hcap2, hso2⟩ := own_strO hown2
  have HB2 := Lib.hid hb2
  have h2z := hb2.size
  have HSO := Lib.hid hso2
  clear hown2 hb2 hso2 WC x0 x1 x2 x3
  go_wp2_with fail
  go_loopg [11, 132] ws.length (fun kk av iv wr => ∃ (i : Nat) (V : Value) (xs : List Value), V = av ∧ iv = .int .i64 (i : Int) ∧ i + kk = ws.length ∧ Hid (CInv w2.heap.size w2 wr V (strV (ws.take i)) xs))
  case atStart => exact ⟨0, _, [], rfl, rfl, by omega, Lib.hid (CInv.nil w2)⟩
  case round =>
    obtain ⟨i, V, xs, rfl, rfl, hik, hC⟩ := hrel
    have hrz := hC.out.size
    by_cases hi : i < ws.length
    · obtain ⟨kk, rfl⟩ : ∃ kk, gk = kk + 1 := ⟨gk - 1, by omega⟩
      obtain ⟨x, hx⟩ : ∃ x, ws[i]? = some x := ⟨_, List.getElem?_eq_getElem hi⟩
      obtain ⟨ga, oa, rfl, hga, hca⟩ : ∃ g o, a2 = some ⟨g, o, none⟩ ∧ g < w2.heap.size ∧ ∀ j x, ws[j]? = some x → w2.cell? ⟨g, o + j, none⟩ = some (.string ⟨x.toArray⟩) := by
        rcases HSO.out with h | h
        · rw [h] at hi; exact absurd hi (Nat.not_lt_zero _)
        · exact h
      have ca := (hC.out.below.cell (p := ⟨ga, oa + i, none⟩) hga).trans (hca i x hx)
      have HST := Lib.hid (strV_take ws i x hx)
      obtain ⟨b, hb⟩ : ∃ b : ByteArray, b = ⟨x.toArray⟩ := ⟨_, rfl⟩
      rw [← hb] at ca HST
      have VC := Lib.hid (valS_c b wr)
      have hvl := strV_len (ws.take i)
      have htl : (ws.take i).length = i := by rw [List.length_take]; omega
      clear hca hx hb
      go_wp2_with fail
      refine VC.out.mono ?_
      rintro e w5 ⟨rfl, hw5⟩
      have hb5 : Below wr.heap.size wr w5 := by rw [← hw5]; exact (Below.refl _ _).alloc (Nat.le_refl _) _
      have C5 := Lib.hid (hC.out.move hb5)
      have HB5 := Lib.hid hb5
      have h5z := hb5.size
      clear hw5 hb5 VC ca
      go_wp2_with (at_builtin; refine wpList_append_own_at _ rfl (.tmp 136) (.tmp 139) 22 rfl w2.heap.size 24 i0 _ 4 56 Tryz.underlying22 hi0 hz0 hz1 hz2 rfl (by decide) V (strV (ws.take i)).len xs rfl (own_below C5.out.own ((Below.refl _ _).alloc (Nat.le_refl _) _)) ⟨w5.heap.size, 0, none⟩ 1 1 [.int .i64 2, .int .i64 0, .string b, .slice none 0 0] rfl rfl ?c1 ?c2 ?c3 ?c4 ?c5 ?c6
                   case c1 => exact cell_four_new w5 _ rfl _ _ _ _ _
                   case c2 => intro u hu; simp at hu; rcases hu with rfl | rfl | rfl | rfl <;> rfl
                   case c3 => unfold maxLen; omega
                   case c4 => omega
                   case c5 => simp; omega
                   intro V' w6 hown' hgrow _ hob
                   have ST := Lib.hid (CInv.step (sub := .nil) hC.out HB5.out (Nat.le_refl _) trivial hown' hgrow hob)
                   clear hown' hgrow hob)
      go_roundg kk
      case measure => omega
      case rel => exact ⟨i + 1, V', _, rfl, by go_num, by omega, Lib.hid (by rw [← HST.out]; exact ST.out)⟩
    · have hiw : i = ws.length := by omega
      have hC2 := hC.out
      rw [hiw, List.take_of_length_le (Nat.le_refl _)] at hC2
      obtain ⟨saZ, scZ, hV, hscZ, hrp⟩ := hC2.rep
      subst hV
      have HBR := Lib.hid (HB2.out.trans (below_le' hC2.below HB2.out.size))
      have LC := Lib.hid (flist_c (strV ws) saZ scZ 0 wr hscZ)
      have HRP := Lib.hid hrp
      clear hC2 hrp hC
      go_wp2_with fail
      refine LC.out.mono ?_
      rintro e w3 ⟨rfl, hb3⟩
      have HZ := Lib.hid (show Below wa.heap.size wa w3 ∧ RpL w3 (fun b => w2.heap.size ≤ b ∧ b < w3.heap.size) (strV ws) saZ from ⟨HBR.out.trans (below_le' hb3 HBR.out.size), HRP.out.keep (fun b hb => hb3.block b hb.2) (fun b hb => ⟨hb.1, Nat.lt_of_lt_of_le hb.2 hb3.size⟩)⟩)
      clear hb3 LC
      have hr5 := HR.out.below HZ.out.1 (by omega)
      have z0 := hr5.c0; have z1 := hr5.c1; have z2 := hr5.c2; have z3 := hr5.c3; have f0 := hr5.fr 0; have f1 := hr5.fr 1; have f2 := hr5.fr 2; have f3 := hr5.fr 3
      have HF := Lib.hid (valC_end (w := w) (k := 4) (n := 0) (s := ⟨#[]⟩) 0 (Nat.le_refl _) (HB.out.trans (below_le' HZ.out.1 HB.out.size)) hr5 hscZ (HZ.out.2.wide (fun c hc => ⟨by omega, by omega, hc.2⟩)))
      clear hr5
      go_wp2_with fail
      refine ret_cell4_tmp Tryz.results34 w.heap.size rfl rfl HF.out.1 ?_
      exact HF.out.2


set_option maxRecDepth 100000 in
set_option maxHeartbeats 4000000 in
theorem fjoin_c (ws : List (List UInt8)) (n : Int) (s : ByteArray) (A : Option Addr) (c : Nat) (w : World) (hc : 1 ≤ c) (hroom : 14 < w.heap.size) (hwl : ws.length ≤ 100000) (hx : ∀ x ∈ ws, x.length ≤ 1000000000)
    (hrep : RpL w (fun b => b < w.heap.size) (.cons 4 n s (strV ws) .nil) A) :
    Calls Tryz.prog 64 #[.slice A 1 c] w (PValC w 2 0 (outS (joinS [32] true ws [])) .nil (outC (joinS [32] true ws []))) := by
  obtain ⟨q, hq⟩ : ∃ q, q = joinS [32] true ws [] := ⟨_, rfl⟩
  rw [← hq]
  obtain ⟨S1, hS1⟩ : ∃ S1, S1 = outS q := ⟨_, rfl⟩
  obtain ⟨C1, hC1⟩ : ∃ C1, C1 = outC q := ⟨_, rfl⟩
  rw [← hS1, ← hC1]
  have HQ := Lib.hid hq
  have HS1 := Lib.hid hS1
  have HC1 := Lib.hid hC1
  clear hq hS1 hC1
  obtain ⟨j0, hj0, hy0, hy1, hy2⟩ := info_parts str_info
  obtain ⟨b, o, sa, sc, rfl, hbS, c0, c1, c2, c3, hcl, hrs, -⟩ := id hrep
  obtain ⟨wa, hwa⟩ : ∃ wa, wa = w.alloc (.cells #[.int .i64 0, .int .i64 0, .string ⟨#[]⟩, .slice none 0 0] 24) := ⟨_, rfl⟩
  have hb : Below w.heap.size w wa := by rw [hwa]; exact (Below.refl _ _).alloc (Nat.le_refl _) _
  have hza : wa.heap.size = w.heap.size + 1 := by rw [hwa]; simp
  have hR : StB wa w.heap.size (.int .i64 0) (.int .i64 0) (.string ⟨#[]⟩) (.slice none 0 0) := by rw [hwa]; exact StB.new w _ _ _ _
  have x0 := (hb.cell (p := ⟨b, o, none⟩) hbS).trans c0
  have x1 := (hb.cell (p := ⟨b, o + 1, none⟩) hbS).trans c1
  have x2 := (hb.cell (p := ⟨b, o + 2, none⟩) hbS).trans c2
  have x3 := (hb.cell (p := ⟨b, o + 3, none⟩) hbS).trans c3
  rw [hwa] at x0 x1 x2 x3
  have HB := Lib.hid hb
  have HR := Lib.hid hR
  have HWA := Lib.hid hwa
  have HX := Lib.hid hx
  have RP := Lib.hid (fun W (hW : Below wa.heap.size wa W) => (hrs.keep (w' := wa) (S' := fun b => b < wa.heap.size) (fun b hlt => hb.block b hlt) (fun b hlt => Nat.lt_of_lt_of_le hlt hb.size)).keep (w' := W) (S' := fun b => b < W.heap.size) (fun b hlt => hW.block b hlt) (fun b hlt => Nat.lt_of_lt_of_le hlt hW.size))
  have hvl := strV_len ws
  rw [hvl] at hcl x3
  clear hb hR hwa hrep hrs c0 c1 c2 c3 hx
  go_enter Tryz.func64, Tryz.ntmps64
  go_wp2_with fail
  rw [← HWA.out]
  go_loopg [5, 20] ws.length (fun kk av iv wr => ∃ (i : Nat) (outs : List (List UInt8)) (ov : Value), ov = av ∧ iv = .int .i64 (i : Int) ∧ i + kk = ws.length ∧ outs.length = i ∧ Hid (outs = ws.take i) ∧ Hid (Below wa.heap.size wa wr) ∧ Hid (wr.ownsRow wa.heap.size 9 1 ov outs.length (strs outs)))
  case atStart => exact ⟨0, [], _, rfl, rfl, by omega, rfl, Lib.hid rfl, Lib.hid (Below.refl _ _), Lib.hid (World.ownsRow_nil _ _ _ _)⟩
  case round =>
    obtain ⟨i, outs, ov, rfl, rfl, hik, hol, HOU, HBW, HO⟩ := hrel
    have hbz : wa.heap.size ≤ wr.heap.size := HBW.out.size
    by_cases hi : i < ws.length
    · obtain ⟨kk, rfl⟩ : ∃ kk, gk = kk + 1 := ⟨gk - 1, by omega⟩
      obtain ⟨x, hx⟩ : ∃ x, ws[i]? = some x := ⟨_, List.getElem?_eq_getElem hi⟩
      obtain ⟨b', o', k', n', s', sub', sa', sc', hA, hd, hSb, d0, d1, d2, d3, hcl', hrs', hszd⟩ := rp_at (RP.out wr HBW.out) (show i < (strV ws).len by rw [hvl]; exact hi)
      have hdx := strV_drop ws i x hx
      rw [hdx] at hd
      injection hd with g1 g2 g3 g4 g5
      subst g1; subst g2; subst g4
      obtain ⟨b2, hb2⟩ : ∃ b : ByteArray, b = ⟨x.toArray⟩ := ⟨_, rfl⟩
      rw [← hb2] at g3
      subst g3
      have HT := Lib.hid (show outs ++ [x] = ws.take (i + 1) by rw [HOU.out, List.take_add_one, hx]; rfl)
      have HBX := Lib.hid hb2
      subst hA
      clear hdx hx hrs' hb2 HOU g5
      obtain ⟨wx, hwx⟩ : ∃ wx, wx = wr.alloc (.cells #[.int .i64 2, .int .i64 0, .string b2, .slice sa' 0 sc'] 24) := ⟨_, rfl⟩
      have ZX := Lib.hid (show wx.heap.size = wr.heap.size + 1 by rw [hwx]; simp)
      have HWX := Lib.hid hwx
      rw [show VL.nil.len = 0 from rfl] at d3
      clear hwx
      go_wp2_with (at_builtin; refine wpList_append_own _ rfl _ _ 38 rfl wa.heap.size 9 j0 (.string ⟨#[]⟩) 1 16 Tryz.underlying38 hj0 hy0 hy1 hy2 rfl (by decide) ov outs.length (strs outs) rfl ((HO.out.alloc _).alloc _) ⟨wr.heap.size + 1, 0, none⟩ 1 1 [.string b2] rfl rfl ?c1 ?c2 ?c3 ?c4 ?c5 ?_
                   case c1 => rw [← ZX.out, ← HWX.out]; exact cell_one_new _ _ _
                   case c2 => intro u hu; simp at hu; subst hu; rfl
                   case c3 => unfold maxLen; omega
                   case c4 => omega
                   case c5 => simp; omega
                   intro v' w5 hown hgrow _
                   have HB5 := Lib.hid (grown_below ((HBW.out.alloc hbz _).alloc (by simp; omega) _) (by simp; omega) hgrow (fun k hk => own_ge HO.out k hk))
                   have HO5 := Lib.hid (strs_snoc (y := x) (by rw [← HBX.out]; exact hown))
                   clear hown hgrow)
      go_roundg kk
      case measure => omega
      case rel => exact ⟨i + 1, outs ++ [x], v', rfl, by go_num, by omega, by simp; omega, HT, HB5, HO5⟩
    · have hiL : i = ws.length := by omega
      have HOE := Lib.hid (show outs = ws by rw [HOU.out, hiL, List.take_of_length_le (Nat.le_refl _)])
      obtain ⟨a, cap, rfl, hcap, hso⟩ := own_strO HO.out
      have JC := Lib.hid (strJoin_c ⟨#[32]⟩ a cap outs wr hso (by omega) hcap (by decide) (by rw [HOE.out]; exact HX.out))
      rw [show (⟨#[32]⟩ : ByteArray).data.toList = [32] from rfl, HOE.out] at JC
      rw [← HQ.out] at JC
      have JC := Lib.hid (JC.out.mono (R' := fun e w' => e = .returned (.tuple #[.string (outS q), .int .i64 (outC q)]) ∧ Below wr.heap.size wr w') fun e w' h => h)
      rw [← HS1.out, ← HC1.out] at JC
      clear hso HOU
      go_wp2_with fail
      refine JC.out.mono ?_
      rintro e w4 ⟨rfl, hb4⟩
      have HB4 := Lib.hid (HBW.out.trans (below_le' hb4 hbz))
      have h4z := HB4.out.size
      clear hb4 JC
      go_wp2_with fail
      refine (ftext_c S1 C1 w4).mono ?_
      rintro e w3 ⟨saZ, scZ, rfl, hscZ, hrZ, hb3⟩
      have HZ := Lib.hid (show Below wa.heap.size wa w3 ∧ RpL w3 (fun b => w4.heap.size ≤ b ∧ b < w3.heap.size) .nil saZ from ⟨HB4.out.trans (below_le' hb3 HB4.out.size), hrZ⟩)
      clear hb3 hrZ
      have hr5 := HR.out.below HZ.out.1 (by omega)
      have z0 := hr5.c0; have z1 := hr5.c1; have z2 := hr5.c2; have z3 := hr5.c3; have f0 := hr5.fr 0; have f1 := hr5.fr 1; have f2 := hr5.fr 2; have f3 := hr5.fr 3
      have HF := Lib.hid (valC_end (w := w) (k := 2) (n := 0) (s := S1) C1 (Nat.le_refl _) (HB.out.trans (below_le' HZ.out.1 HB.out.size)) hr5 hscZ (HZ.out.2.wide (fun c hc => ⟨by omega, by omega, hc.2⟩)))
      clear hr5
      go_wp2_with fail
      refine ret_cell4_tmp Tryz.results64 w.heap.size rfl rfl HF.out.1 ?_
      exact HF.out.2

set_option maxRecDepth 100000 in
set_option maxHeartbeats 4000000 in
theorem call_join (ws : List (List UInt8)) (n : Int) (s : ByteArray) (A : Option Addr) (c : Nat) (w : World) (hc : 1 ≤ c) (hroom : 14 < w.heap.size) (hwl : ws.length ≤ 100000) (hx : ∀ x ∈ ws, x.length ≤ 1000000000)
    (hrep : RpL w (fun b => b < w.heap.size) (.cons 4 n s (strV ws) .nil) A) (nm : ByteArray) (hnm : nm.data.toList = [106, 111, 105, 110]) :
    Calls Tryz.prog 34 #[.string nm, .slice A 1 c] w (PValC w 2 0 (outS (joinS [32] true ws [])) .nil (outC (joinS [32] true ws []))) := by
  obtain ⟨S1, hS1⟩ : ∃ S1, S1 = outS (joinS [32] true ws []) := ⟨_, rfl⟩
  obtain ⟨C1, hC1⟩ : ∃ C1, C1 = outC (joinS [32] true ws []) := ⟨_, rfl⟩
  obtain ⟨wa, hwa⟩ : ∃ wa, wa = w.alloc (.cells #[.int .i64 0, .int .i64 0, .string ⟨#[]⟩, .slice none 0 0] 24) := ⟨_, rfl⟩
  have hb : Below w.heap.size w wa := by rw [hwa]; exact (Below.refl _ _).alloc (Nat.le_refl _) _
  have hza : wa.heap.size = w.heap.size + 1 := by rw [hwa]; simp
  have hR : StB wa w.heap.size (.int .i64 0) (.int .i64 0) (.string ⟨#[]⟩) (.slice none 0 0) := by rw [hwa]; exact StB.new w _ _ _ _
  have JC := Lib.hid (fjoin_c ws n s A c wa hc (by omega) hwl hx (hrep.keep (fun b hlt => hb.block b hlt) (fun b hlt => Nat.lt_of_lt_of_le hlt hb.size)))
  rw [← hS1, ← hC1] at JC ⊢
  have HB := Lib.hid hb
  have HR := Lib.hid hR
  have HWA := Lib.hid hwa
  have qtypeof := nmF hnm [116, 121, 112, 101, 111, 102] (by decide)
  have qlength := nmF hnm [108, 101, 110, 103, 116, 104] (by decide)
  have qtostr := nmF hnm [116, 111, 115, 116, 114] (by decide)
  have qtoliteral := nmF hnm [116, 111, 108, 105, 116, 101, 114, 97, 108] (by decide)
  have qtoint := nmF hnm [116, 111, 105, 110, 116] (by decide)
  have qtoobj := nmF hnm [116, 111, 111, 98, 106] (by decide)
  have qequal := nmF hnm [101, 113, 117, 97, 108] (by decide)
  have qsize := nmF hnm [115, 105, 122, 101] (by decide)
  have qabs := nmF hnm [97, 98, 115] (by decide)
  have qmin := nmF hnm [109, 105, 110] (by decide)
  have qmax := nmF hnm [109, 97, 120] (by decide)
  have qwords := nmF hnm [119, 111, 114, 100, 115] (by decide)
  have qjoin := nmT hnm
  clear hb hR hwa hnm hrep hS1 hC1 hx
  go_enter Tryz.func34, Tryz.ntmps34
  go_wp2_with fail
  rw [← HWA.out]
  refine JC.out.mono ?_
  rintro e w3 ⟨saZ, scZ, rfl, hscZ, hrZ, hb3⟩
  have HZ := Lib.hid (show Below wa.heap.size wa w3 ∧ RpL w3 (fun b => wa.heap.size ≤ b ∧ b < w3.heap.size) .nil saZ from ⟨hb3, hrZ⟩)
  clear hb3 hrZ JC
  have hr5 := HR.out.below HZ.out.1 (by omega)
  have z0 := hr5.c0; have z1 := hr5.c1; have z2 := hr5.c2; have z3 := hr5.c3; have f0 := hr5.fr 0; have f1 := hr5.fr 1; have f2 := hr5.fr 2; have f3 := hr5.fr 3
  have HF := Lib.hid (valC_end (w := w) (k := 2) (n := 0) (s := S1) C1 (Nat.le_refl _) (HB.out.trans (below_le' HZ.out.1 HB.out.size)) hr5 hscZ (HZ.out.2.wide (fun c hc => ⟨by omega, by omega, hc.2⟩)))
  clear hr5
  go_wp2_with fail
  refine ret_cell4_tmp Tryz.results34 w.heap.size rfl rfl HF.out.1 ?_
  exact HF.out.2
end Go.Proofs.YtbalpfpcbckghaaGreatDoor
namespace Go.Proofs.YtbalpfpcbckghaaGreatDoor
open Go.RowKit Go.Lib
set_option linter.unusedVariables false

theorem ext_oneF (s : ByteArray) (i : Nat) (h : i < s.size) : (s.extract i (i + 1)).data.toList = [s[i]] := by
  have hl : i < s.data.toList.length := by rw [Array.length_toList]; exact h
  rw [ByteArray.data_extract, Array.toList_extract, List.extract_eq_take_drop, show i + 1 - i = 1 by omega, List.drop_eq_getElem_cons hl]
  rfl
set_option maxRecDepth 100000 in
set_option maxHeartbeats 2000000 in
theorem refIndex_sp (s : ByteArray) (w : World) (hs : s.size ≤ 1000000) :
    Calls Tryz.prog 21 #[.string s, .string ⟨#[32]⟩] w fun e w' => ∃ r : Int, e = .returned (.int .i64 r) ∧ (r = 0 ↔ (32 : UInt8) ∉ s.data.toList) ∧ w = w' := by
  have hz : s.data.toList.length = s.size := by rw [Array.length_toList]; rfl
  obtain ⟨t, ht⟩ : ∃ t : ByteArray, t = ⟨#[32]⟩ := ⟨_, rfl⟩
  have hts : t.size = 1 := by rw [ht]; rfl
  have htl : t.data.toList = [32] := by rw [ht]
  rw [← ht]
  have HTL := Lib.hid htl
  clear ht htl
  go_enter Tryz.func21, Tryz.ntmps21
  go_wp2_with fail
  go_loopg [5] (s.size + 1) (fun kk iv wr => ∃ i : Nat, iv = .int .i64 (i : Int) ∧ i + kk = s.size + 1 ∧ w = wr ∧ Hid ((32 : UInt8) ∉ s.data.toList.take i))
  case atStart => exact ⟨0, rfl, by omega, rfl, Lib.hid (by simp)⟩
  case round =>
    obtain ⟨i, rfl, hk, rfl, HN⟩ := hrel
    by_cases hi : i < s.size
    · obtain ⟨kk, rfl⟩ : ∃ kk, gk = kk + 1 := ⟨gk - 1, by omega⟩
      have hl : i < s.data.toList.length := by omega
      have hti : s.data.toList.take (i + 1) = s.data.toList.take i ++ [s[i]] := by rw [List.take_succ_eq_append_getElem hl]; rfl
      have hiI : (i : Int) + 1 ≤ (s.size : Int) := by omega
      by_cases hb : s[i] = 32
      · have q1 : ((s.extract i (i + 1)).toList == t.toList) = true := by rw [Lib.toList_data, Lib.toList_data, ext_oneF s i hi, HTL.out, hb]; rfl
        have HIN := Lib.hid (show (32 : UInt8) ∈ s.data.toList by rw [← hb]; exact List.getElem_mem hl)
        clear hti hb HN
        go_wp2_with fail
        go_ret
        exact ⟨_, rfl, ⟨fun h => by omega, fun h => absurd HIN.out h⟩, rfl⟩
      · have q1 : ((s.extract i (i + 1)).toList == t.toList) = false := by
          rw [Lib.toList_data, Lib.toList_data, ext_oneF s i hi, HTL.out, beq_eq_false_iff_ne]
          intro h; injection h with h _; exact hb h
        have HN2 := Lib.hid (show (32 : UInt8) ∉ s.data.toList.take (i + 1) by
          rw [hti, List.mem_append]
          rintro (h | h)
          · exact HN.out h
          · rcases List.mem_singleton.1 h with h; exact hb h.symm)
        clear hti hb HN
        go_wp2_with fail
        go_roundg kk
        case measure => omega
        case rel => exact ⟨i + 1, by go_num, by omega, rfl, HN2⟩
    · have hiI : ¬ (i : Int) + 1 ≤ (s.size : Int) := by omega
      have HA := Lib.hid (show (32 : UInt8) ∉ s.data.toList by have := HN.out; rwa [List.take_of_length_le (by omega)] at this)
      clear HN
      go_wp2_with fail
      go_ret
      exact ⟨0, rfl, ⟨fun _ h => HA.out (by simpa using h), fun _ => rfl⟩, rfl⟩

set_option maxRecDepth 100000 in
set_option maxHeartbeats 4000000 in
theorem vsameS_c (ws : List (List UInt8)) (sa sb : Option Addr) (ca cb : Nat) (w : World) (hwl : ws.length ≤ 100000) (hca : ws.length ≤ ca) (hcb : ws.length ≤ cb) (ha : RpL w (fun b => b < w.heap.size) (strV ws) sa) (hb : RpL w (fun b => b < w.heap.size) (strV ws) sb) :
    Calls Tryz.prog 15 #[.agg #[.int .i64 4, .int .i64 0, .string ⟨#[]⟩, .slice sa ws.length ca], .agg #[.int .i64 4, .int .i64 0, .string ⟨#[]⟩, .slice sb ws.length cb]] w fun e w' => e = .returned (.bool true) ∧ Below w.heap.size w w' := by
  obtain ⟨w1, hw1⟩ : ∃ w1, w1 = w.alloc (.cells #[.int .i64 4, .int .i64 0, .string ⟨#[]⟩, .slice sa ws.length ca] 24) := ⟨_, rfl⟩
  have hb1 : Below w.heap.size w w1 := by rw [hw1]; exact (Below.refl _ _).alloc (Nat.le_refl _) _
  have hz1 : w1.heap.size = w.heap.size + 1 := by rw [hw1]; simp
  obtain ⟨w2, hw2⟩ : ∃ w2, w2 = w1.alloc (.cells #[.int .i64 4, .int .i64 0, .string ⟨#[]⟩, .slice sb ws.length cb] 24) := ⟨_, rfl⟩
  have hb2 : Below w1.heap.size w1 w2 := by rw [hw2]; exact (Below.refl _ _).alloc (Nat.le_refl _) _
  have hz2 : w2.heap.size = w.heap.size + 2 := by rw [hw2]; simp; omega
  have V1 := (show StB w1 w.heap.size (.int .i64 4) (.int .i64 0) (.string ⟨#[]⟩) (.slice sa ws.length ca) by rw [hw1]; exact StB.new w _ _ _ _).below hb2 (by omega)
  have V2 : StB w2 (w.heap.size + 1) (.int .i64 4) (.int .i64 0) (.string ⟨#[]⟩) (.slice sb ws.length cb) := by rw [hw2, ← hz1]; exact StB.new w1 _ _ _ _
  have a0 := V1.c0; have a1 := V1.c1; have a2 := V1.c2; have a3 := V1.c3
  have b0 := V2.c0; have b1 := V2.c1; have b2 := V2.c2; have b3 := V2.c3
  have hbb := hb1.trans (below_le' hb2 hb1.size)
  have HB := Lib.hid hbb
  have HV2 := Lib.hid V2
  have RA := Lib.hid (fun W (hW : Below w.heap.size w W) => ha.keep (w' := W) (S' := fun b => b < W.heap.size) (fun b hlt => hW.block b hlt) (fun b hlt => Nat.lt_of_lt_of_le hlt hW.size))
  have RB := Lib.hid (fun W (hW : Below w.heap.size w W) => hb.keep (w' := W) (S' := fun b => b < W.heap.size) (fun b hlt => hW.block b hlt) (fun b hlt => Nat.lt_of_lt_of_le hlt hW.size))
  rw [hw2, hw1] at a0 a1 a2 a3 b0 b1 b2 b3
  have HW := Lib.hid (show w2 = (w.alloc (.cells #[.int .i64 4, .int .i64 0, .string ⟨#[]⟩, .slice sa ws.length ca] 24)).alloc (.cells #[.int .i64 4, .int .i64 0, .string ⟨#[]⟩, .slice sb ws.length cb] 24) by rw [hw2, hw1])
  have hvl := strV_len ws
  clear hw1 hw2 hb1 hb2 hbb V1 V2 ha hb
  go_enter Tryz.func15, Tryz.ntmps15
  go_wp2_with fail
  rw [← HW.out]
  clear a0 a1 a2 a3 b0 b1 b2 b3
  go_loopg [38] ws.length (fun kk iv wr => ∃ i : Nat, iv = .int .i64 (i : Int) ∧ i + kk = ws.length ∧ Hid (Below w2.heap.size w2 wr))
  case atStart => exact ⟨0, rfl, by omega, Lib.hid (Below.refl _ _)⟩
  case round =>
    obtain ⟨i, rfl, hik, HBW⟩ := hrel
    have hrz := HBW.out.size
    have HBr := Lib.hid (HB.out.trans (below_le' HBW.out HB.out.size))
    by_cases hi : i < ws.length
    · obtain ⟨kk, rfl⟩ : ∃ kk, gk = kk + 1 := ⟨gk - 1, by omega⟩
      obtain ⟨x, hx⟩ : ∃ x, ws[i]? = some x := ⟨_, List.getElem?_eq_getElem hi⟩
      have hiv : i < (strV ws).len := by rw [hvl]; exact hi
      obtain ⟨b, o, k1, n1, s1, u1, p1, q1, hA, hd, hS1, c0, c1, c2, c3, hcl1, hrs1, -⟩ := rp_at (RA.out wr HBr.out) hiv
      obtain ⟨b', o', k2, n2, s2, u2, p2, q2, hA2, hd2, hS2, d0, d1, d2, d3, hcl2, hrs2, -⟩ := rp_at (RB.out wr HBr.out) hiv
      have hdx : (strV ws).drop i = .cons 2 0 ⟨x.toArray⟩ .nil ((strV ws).drop (i + 1)) := strV_drop ws i x hx
      rw [hdx] at hd hd2
      injection hd with g1 g2 g3 g4 _
      injection hd2 with e1 e2 e3 e4 _
      subst g1; subst g2; subst g4; subst e1; subst e2; subst e4
      obtain ⟨bx, hbx⟩ : ∃ b : ByteArray, b = ⟨x.toArray⟩ := ⟨_, rfl⟩
      rw [← hbx] at g3 e3
      subst g3; subst e3
      rw [show VL.nil.len = 0 from rfl] at c3 d3
      obtain ⟨wx, hwx⟩ : ∃ wx, wx = wr.alloc (.cells #[.int .i64 2, .int .i64 0, .string bx, .slice p1 0 q1] 24) := ⟨_, rfl⟩
      have hbx' : Below wr.heap.size wr wx := by rw [hwx]; exact (Below.refl _ _).alloc (Nat.le_refl _) _
      have hVx : StB wx wr.heap.size (.int .i64 2) (.int .i64 0) (.string bx) (.slice p1 0 q1) := by rw [hwx]; exact StB.new wr _ _ _ _
      have v0 := hVx.c0; have v1 := hVx.c1; have v2 := hVx.c2; have v3 := hVx.c3
      have m3 := (HV2.out.below (HBW.out.trans (below_le' hbx' hrz)) (by omega)).c3
      have n0 := (hbx'.cell (p := ⟨b', o' + i * 4, none⟩) hS2).trans d0
      have n1 := (hbx'.cell (p := ⟨b', o' + i * 4 + 1, none⟩) hS2).trans d1
      have n2 := (hbx'.cell (p := ⟨b', o' + i * 4 + 2, none⟩) hS2).trans d2
      have n3 := (hbx'.cell (p := ⟨b', o' + i * 4 + 3, none⟩) hS2).trans d3
      have SC := Lib.hid (vsame0_c 2 0 bx p1 p2 q1 q2 wx.drew)
      have HBX := Lib.hid (HBW.out.trans (below_le' hbx' hrz))
      have HWX := Lib.hid hwx
      subst hA; subst hA2
      clear hdx hx hrs1 hrs2 hbx hwx hbx' hVx d0 d1 d2 d3
      go_wp2_with fail
      rw [← HWX.out]
      go_still_tail 6, (by kernel_rfl)
      change wpList _ _ _ _ _ wx.drew
      go_wp2_with fail
      refine SC.out.mono ?_
      rintro e w5 ⟨rfl, hb5⟩
      have HB5 := Lib.hid (HBX.out.trans (below_le' (show Below wx.heap.size wx w5 from ((Below.refl wx.heap.size wx).drew).trans hb5) HBX.out.size))
      clear hb5 SC c0 c1 c2 c3 v0 v1 v2 v3 m3 n0 n1 n2 n3
      go_wp2_with fail
      go_roundg kk
      case measure => omega
      case rel => exact ⟨i + 1, by go_num, by omega, HB5⟩
    · go_wp2_with fail
      go_ret
      exact ⟨rfl, HBr.out⟩
end Go.Proofs.YtbalpfpcbckghaaGreatDoor
namespace Go.Proofs.YtbalpfpcbckghaaGreatDoor
open Go.RowKit Go.Lib
set_option linter.unusedVariables false

/-- Words with a space between. -/
def joinW : List (List UInt8) → List UInt8
  | [] => []
  | [x] => x
  | x :: y :: r => x ++ 32 :: joinW (y :: r)
theorem joinS_false : ∀ (ws : List (List UInt8)) (b : List UInt8), (b.length + (ws.map (fun x => x.length + 1)).sum < 4096) → joinS [32] false ws b = some (b ++ (ws.map (fun x => 32 :: x)).flatten)
  | [], b, h => by simp [joinS]
  | x :: r, b, h => by
    simp only [List.map_cons, List.sum_cons] at h
    rw [joinS, if_neg (by show ¬ 4096 ≤ 1 + b.length; omega), if_neg (by rw [List.length_append]; show ¬ 4096 ≤ x.length + (b.length + 1); omega), joinS_false r _ (by simp only [List.length_append, List.length_cons, List.length_nil]; omega)]
    simp
theorem joinW_cons (x : List UInt8) (r : List (List UInt8)) : joinW (x :: r) = x ++ (r.map (fun x => 32 :: x)).flatten := by
  induction r generalizing x with
  | nil => simp [joinW]
  | cons y r ih => rw [joinW, ih y]; simp
theorem joinS_ok (ws : List (List UInt8)) (h : (ws.map (fun x => x.length + 1)).sum < 4096) : joinS [32] true ws [] = some (joinW ws) := by
  cases ws with
  | nil => rfl
  | cons x r =>
    simp only [List.map_cons, List.sum_cons] at h
    rw [joinS, if_neg (by show ¬ 4096 ≤ x.length + 0; omega), List.nil_append, joinS_false r x (by omega), joinW_cons]
theorem idx_miss : ∀ (l : List UInt8), (32 : UInt8) ∉ l → Lib.index l [32] = -1 := by
  intro l h
  refine Lib.index_none (fun j hj => ?_)
  unfold Lib.occAt
  cases hd : l.drop j with
  | nil => rfl
  | cons y r =>
    have hy : y ∈ l := List.mem_of_mem_drop (by rw [hd]; exact List.mem_cons_self ..)
    have : ¬ (32 : UInt8) = y := fun e => h (by rw [e]; exact hy)
    simp [List.isPrefixOf, this]
theorem idx_hit (x r : List UInt8) (h : (32 : UInt8) ∉ x) : Lib.index (x ++ 32 :: r) [32] = (x.length : Nat) := by
  refine Lib.index_first (by simp) ?_ (fun j hj => ?_)
  · unfold Lib.occAt; simp [List.isPrefixOf]
  · unfold Lib.occAt
    rw [List.drop_append_of_le_length (by omega)]
    cases hd : x.drop j with
    | nil => have := congrArg List.length hd; simp at this; omega
    | cons y r' =>
      have hy : y ∈ x := List.mem_of_mem_drop (by rw [hd]; exact List.mem_cons_self ..)
      have : ¬ (32 : UInt8) = y := fun e => h (by rw [e]; exact hy)
      simp [List.isPrefixOf, this]
theorem count_joinW : ∀ (ws : List (List UInt8)) (x : List UInt8) (f : Nat), (∀ y ∈ x :: ws, (32 : UInt8) ∉ y) → (joinW (x :: ws)).length < f → Lib.countFrom [32] f (joinW (x :: ws)) = ws.length
  | [], x, f, h, hf => by
    obtain ⟨g, rfl⟩ : ∃ g, f = g + 1 := ⟨f - 1, by omega⟩
    rw [joinW, Lib.countFrom, idx_miss x (h x (List.mem_cons_self ..))]
    rfl
  | y :: r, x, f, h, hf => by
    obtain ⟨g, rfl⟩ : ∃ g, f = g + 1 := ⟨f - 1, by omega⟩
    rw [joinW] at hf ⊢
    have hl : (x ++ 32 :: joinW (y :: r)).length = x.length + 1 + (joinW (y :: r)).length := by simp; omega
    have hi := idx_hit x (joinW (y :: r)) (h x (List.mem_cons_self ..))
    rw [Lib.countFrom, hi, if_neg (by simp), Int.toNat_natCast]
    have hd : (x ++ 32 :: joinW (y :: r)).drop (x.length + [(32 : UInt8)].length) = joinW (y :: r) := by
      rw [List.drop_append, List.drop_of_length_le (by simp), show x.length + [(32 : UInt8)].length - x.length = 1 by simp]
      rfl
    rw [hd, count_joinW r y g (fun z hz => h z (List.mem_cons_of_mem _ hz)) (by omega), List.length_cons]
    omega
theorem split_joinW : ∀ (ws : List (List UInt8)) (x : List UInt8), (∀ y ∈ x :: ws, (32 : UInt8) ∉ y) → Lib.splitK [32] 0 ws.length (joinW (x :: ws)) = x :: ws
  | [], x, h => by rw [joinW]; rfl
  | y :: r, x, h => by
    have hi := idx_hit x (joinW (y :: r)) (h x (List.mem_cons_self ..))
    rw [joinW, List.length_cons, Lib.splitK]
    rw [hi, if_neg (by simp), Int.toNat_natCast]
    have hd : (x ++ 32 :: joinW (y :: r)).drop (x.length + [(32 : UInt8)].length) = joinW (y :: r) := by
      rw [List.drop_append, List.drop_of_length_le (by simp), show x.length + [(32 : UInt8)].length - x.length = 1 by simp]
      rfl
    rw [hd, split_joinW r y (fun z hz => h z (List.mem_cons_of_mem _ hz))]
    simp
theorem pieces_list (s : ByteArray) : piecesS s = Lib.splitK [32] 0 (Lib.countB s spB) s.data.toList := Lib.splitB_data spB 0 (Lib.countB s spB) s
theorem countB_list (s : ByteArray) : Lib.countB s spB = Lib.count s.data.toList [32] := rfl
/-- Words joined with spaces are the pieces. -/
theorem pieces_join (ws : List (List UInt8)) (h : ∀ y ∈ ws, (32 : UInt8) ∉ y ∧ y ≠ []) : piecesS ⟨(joinW ws).toArray⟩ = (if ws = [] then [[]] else ws) ∧ (piecesS ⟨(joinW ws).toArray⟩).length = Lib.countB ⟨(joinW ws).toArray⟩ spB + 1 ∧ wordsS ⟨(joinW ws).toArray⟩ = ws := by
  have e : (⟨(joinW ws).toArray⟩ : ByteArray).data.toList = joinW ws := by simp
  cases ws with
  | nil =>
    have h1 : piecesS ⟨(joinW []).toArray⟩ = [[]] := by decide +kernel
    refine ⟨by rw [h1]; rfl, by decide +kernel, by unfold wordsS; rw [h1]; rfl⟩
  | cons x r =>
    have hc : Lib.countB ⟨(joinW (x :: r)).toArray⟩ spB = r.length := by
      rw [countB_list, e]
      unfold Lib.count
      exact count_joinW r x _ (fun y hy => (h y hy).1) (by omega)
    have hp : piecesS ⟨(joinW (x :: r)).toArray⟩ = x :: r := by
      rw [pieces_list, hc, e]
      exact split_joinW r x (fun y hy => (h y hy).1)
    refine ⟨by rw [hp, if_neg (by simp)], by rw [hp, hc]; rfl, ?_⟩
    unfold wordsS
    rw [hp, List.filter_eq_self.2]
    intro y hy
    have := (h y hy).2
    cases y with
    | nil => exact absurd rfl this
    | cons => rfl
end Go.Proofs.YtbalpfpcbckghaaGreatDoor
namespace Go.Proofs.YtbalpfpcbckghaaGreatDoor
open Go.RowKit Go.Lib
set_option linter.unusedVariables false

theorem walk_strF (t : ByteArray) (h : t.size < 4096) (hp : prB t.data.toList = true) : (walk1 2 0 t .nil 1 4096).1 = 0 := by
  have hm : mOf 2 t = t.size := rfl
  have ho : ownE 2 0 t VL.nil.len = 0 := by
    rcases str_cases (n := 0) (s := t) (len := VL.nil.len) with ⟨_, h | ⟨_, h⟩⟩ | ⟨_, _, _, h⟩ | ⟨h, _⟩
    · exact absurd rfl h
    · exact absurd h (Nat.lt_irrefl _)
    · rw [hp] at h; cases h
    · exact h
  unfold walk1
  rw [if_neg (by decide), hm, if_neg (by omega), if_pos ho]; rfl
theorem walk_strM (t : ByteArray) (h : 4096 ≤ t.size) : (walk1 2 0 t .nil 1 4096).1 = 104 := by
  have hm : mOf 2 t = t.size := rfl
  unfold walk1
  rw [if_neg (by decide), hm, if_pos (by omega)]
theorem ftxt_facts {k n : Int} {s : ByteArray} {sub : VL} (hr : rightB k n s sub = true) (h64 : (val1 k n s sub).i64) : (txtV k n s sub).size ≤ 100000 ∧ prB (txtV k n s sub).data.toList = true := by
  have h0 : (walk1 k n s sub 1 4096).1 = 0 := of_decide_eq_true hr
  have e : txtV k n s sub = ⟨(txt1 k n s (txtL sub)).toArray⟩ := by unfold txtV; rw [if_pos h0]
  have hok := OkL_one (walk1_ok h0)
  refine ⟨?_, ?_⟩
  · rw [e, ba_size]
    have h1 := txtL_len_le _ _ (walk1_ok h0) h64
    have h2 := walk1_cost k n s sub 1 4096 (by omega) h0
    have h3 : cost (val1 k n s sub) = 1 + mOf k s + cost sub := by unfold val1; rw [cost, cost]; omega
    have h4 : ((txtL (val1 k n s sub)).map fun x => x.length + 2).sum = (txt1 k n s (txtL sub)).length + 2 := by simp [txtL, val1]
    rw [h4] at h1
    omega
  · rw [e, toList_mk]
    exact txt1_print hok.1 (txtL_print sub 2 hok.2)

theorem info_partF {P : Program} {t : TypeId} {α : Type} {f : TypeInfo → α} {b : α} (h : (P.info? t).map f = some b) : ∃ i, P.info? t = some i ∧ f i = b := by
  cases hq : P.info? t with
  | none => rw [hq] at h; cases h
  | some i => rw [hq] at h; exact ⟨i, rfl, Option.some.inj h⟩
/-- The errors of too much and of too deep lie in memory. -/
structure MdAt (w : World) (ea : Nat → Addr) : Prop where
  many : ∃ c t, w.heap[(ea 104).block]? = some (.cells c t (0, 0))
  deep : ∃ c t, w.heap[(ea 112).block]? = some (.cells c t (0, 0))
theorem MdAt.below {w w' : World} {ea : Nat → Addr} (h : MdAt w ea) (hb : Below w.heap.size w w') : MdAt w' ea := by
  obtain ⟨c, t, h1⟩ := h.many
  obtain ⟨c', t', h2⟩ := h.deep
  exact ⟨⟨c, t, (hb.block _ (Array.getElem?_eq_some_iff.1 h1).1).trans h1⟩, ⟨c', t', (hb.block _ (Array.getElem?_eq_some_iff.1 h2).1).trans h2⟩⟩

set_option maxRecDepth 100000 in
set_option maxHeartbeats 2000000 in
theorem rightM_c (s : ByteArray) (sa : Option Addr) (sc : Nat) (ea : Nat → Addr) (w : World) (he : ErrsAt w ea) (hmd : MdAt w ea) (hs : s.size ≤ 140737488351232) (hbig : 4096 ≤ s.size) :
    Calls Tryz.prog 35 #[.agg #[.int .i64 2, .int .i64 0, .string s, .slice sa 0 sc]] w fun e w' => ∃ code : Int, e = .returned (.int .i64 code) ∧ code ≠ 0 ∧ Below w.heap.size w w' := by
  obtain ⟨wa, hwa⟩ : ∃ wa, wa = w.alloc (.cells #[.int .i64 2, .int .i64 0, .string s, .slice sa 0 sc] 24) := ⟨_, rfl⟩
  have hb : Below w.heap.size w wa := by rw [hwa]; exact (Below.refl _ _).alloc (Nat.le_refl _) _
  have hV : StB wa w.heap.size (.int .i64 2) (.int .i64 0) (.string s) (.slice sa 0 sc) := by rw [hwa]; exact StB.new w _ _ _ _
  have v0 := hV.c0; have v1 := hV.c1; have v2 := hV.c2; have v3 := hV.c3
  have hroom := he.room
  have VC := Lib.hid (valid_c 2 0 s .nil sa sc ea wa (he.below hb (by omega)) hs (by decide) trivial (Nat.zero_le _) trivial)
  rw [walk_strM s hbig, show errV ea 104 = .iface 224 (.pointer (some (ea 104))) from rfl, show VL.nil.len = 0 from rfl] at VC
  have HB := Lib.hid hb
  rw [hwa] at v0 v1 v2 v3
  have HWA := Lib.hid hwa
  have EV := Lib.hid (fun W (hW : Below w.heap.size w W) => he.below hW (by omega))
  have MV := Lib.hid (fun W (hW : Below w.heap.size w W) => hmd.below hW)
  obtain ⟨ii, hii, hiic⟩ := info_partF (P := Tryz.prog) (t := 224) (f := fun i => i.comparable) (b := true) (by kernel_rfl)
  obtain ⟨jj, hjj, hjjc⟩ := info_partF (P := Tryz.prog) (t := 226) (f := fun i => i.size) (b := 1) (by kernel_rfl)
  have EQS := Lib.hid (fun W (a : Addr) => run_eql_iface_ptr_same (P := Tryz.prog) (ti := 80) W a Tryz.underlying80 Tryz.underlying224 hii hiic hjj)
  have EQO := Lib.hid (fun W (a b : Addr) ca cb ta tb (hne : a ≠ b) (h1 : W.heap[a.block]? = some (.cells ca ta (0, 0))) (h2 : W.heap[b.block]? = some (.cells cb tb (0, 0))) => run_eql_iface_ptr_other (P := Tryz.prog) (ti := 80) W Tryz.underlying80 Tryz.underlying224 hii hiic hjj (by rw [hjjc]; decide) hne h1 h2)
  clear hb hV hwa he hmd hii hiic hjj hjjc
  go_enter Tryz.func35, Tryz.ntmps35
  go_wp2_with fail
  rw [← HWA.out]
  refine VC.out.mono ?_
  rintro e w2 ⟨rfl, hb2⟩
  have HB2 := Lib.hid (HB.out.trans (below_le' hb2 HB.out.size))
  clear hb2 v0 v1 v2 v3
  have e2 := (EV.out w2 HB2.out).deep
  by_cases heq : ea 104 = ea 112
  · have q1 := EQS.out w2 (ea 112)
    rw [heq]
    go_wp2_with fail
    go_ret
    exact ⟨9, rfl, by decide, HB2.out⟩
  · obtain ⟨c1, t1, m1⟩ := (MV.out w2 HB2.out).many
    obtain ⟨c2, t2, m2⟩ := (MV.out w2 HB2.out).deep
    have q1 := EQO.out w2 (ea 104) (ea 112) c1 c2 t1 t2 heq m1 m2
    clear m1 m2
    go_wp2_with fail
    go_ret
    exact ⟨14, rfl, by decide, HB2.out⟩
end Go.Proofs.YtbalpfpcbckghaaGreatDoor
namespace Go.Proofs.YtbalpfpcbckghaaGreatDoor
open Go.RowKit Go.Lib
set_option linter.unusedVariables false

set_option maxRecDepth 100000 in
set_option maxHeartbeats 4000000 in
theorem Call_wrong (nm : ByteArray) (l : VL) (A : Option Addr) (c : Nat) (k n : Int) (s : ByteArray) (sub : VL) (ea : Nat → Addr) (w : World) (he : FnEnv w) (hea : ErrsAt w ea) (hc : l.len ≤ c) (hlen : l.len ≤ 100000) (hrep : RpL w (fun b => b < w.heap.size) l A)
    (hp : pureP nm.data.toList = true) (hf : fitsP nm.data.toList l = 0) (hs : s.size ≤ 140737488351232) (hsl : sub.len ≤ 140737488351232) (hsf : sub.fit) (hright : ∀ W sa sc, Below w.heap.size w W → sub.len ≤ sc → RpL W (fun b => b < W.heap.size) sub sa → Calls Tryz.prog 35 #[.agg #[.int .i64 k, .int .i64 n, .string s, .slice sa sub.len sc]] W fun e w' => ∃ code : Int, e = .returned (.int .i64 code) ∧ code ≠ 0 ∧ Below W.heap.size W w')
    (hcall : ∀ W, Below w.heap.size w W → RpL W (fun b => b < W.heap.size) l A → Calls Tryz.prog 34 #[.string nm, .slice A l.len c] W (PValC W k n s sub 0)) :
    Calls Tryz.prog 14 #[.string nm, .slice A l.len c] w (fun e w' => ∃ code : Int, code ≠ 0 ∧ PValC w 0 0 ⟨#[]⟩ .nil code e w') := by
  have hroom := he.room
  obtain ⟨wa, hwa⟩ : ∃ wa, wa = w.alloc (.cells #[.int .i64 0, .int .i64 0, .string ⟨#[]⟩, .slice none 0 0] 24) := ⟨_, rfl⟩
  have hb : Below w.heap.size w wa := by rw [hwa]; exact (Below.refl _ _).alloc (Nat.le_refl _) _
  have hza : wa.heap.size = w.heap.size + 1 := by rw [hwa]; simp
  have hR : StB wa w.heap.size (.int .i64 0) (.int .i64 0) (.string ⟨#[]⟩) (.slice none 0 0) := by rw [hwa]; exact StB.new w _ _ _ _
  have PC := Lib.hid (pure_c nm wa (he.below hb (by omega)))
  rw [hp] at PC
  have RP := Lib.hid (fun W (hW : Below w.heap.size w W) => hrep.keep (w' := W) (S' := fun b => b < W.heap.size) (fun b hlt => hW.block b hlt) (fun b hlt => Nat.lt_of_lt_of_le hlt hW.size))
  have FC := Lib.hid (fun W (hW : Below w.heap.size w W) => ffits_c nm l A c W (he.below hW (by omega)) hc hlen (RP.out W hW))
  rw [hf] at FC
  have EA := Lib.hid (fun W (hW : Below w.heap.size w W) => hea.below hW (by omega))
  have CC := Lib.hid (fun W (hW : Below w.heap.size w W) => hcall W hW (RP.out W hW))
  have HSF := Lib.hid hsf
  have HRT := Lib.hid hright
  have HB := Lib.hid hb
  have HR := Lib.hid hR
  have HWA := Lib.hid hwa
  clear hb hR hwa he hea hcall hrep hp hf hsf hright
  go_enter Tryz.func14, Tryz.ntmps14
  go_wp2_with fail
  rw [← HWA.out]
  refine PC.out.mono ?_
  rintro e w2 ⟨rfl, hb2⟩
  have HB2 := Lib.hid (HB.out.trans (below_le' hb2 HB.out.size))
  have HR2 := Lib.hid (HR.out.below hb2 (by omega))
  have h2z := hb2.size
  clear hb2 PC HWA HR
  go_wp2_with fail
  refine (FC.out w2 HB2.out).mono ?_
  rintro e w3 ⟨rfl, hb3⟩
  have HB3 := Lib.hid (HB2.out.trans (below_le' hb3 HB2.out.size))
  have h3z := hb3.size
  have HR3 := Lib.hid (HR2.out.below hb3 (by omega))
  clear FC HR2
  obtain ⟨w4, hw4⟩ : ∃ w4, w4 = w3.alloc (.cells #[.int .i64 0, .int .i64 0, .string ⟨#[]⟩, .slice none 0 0] 24) := ⟨_, rfl⟩
  have hb4 : Below w3.heap.size w3 w4 := by rw [hw4]; exact (Below.refl _ _).alloc (Nat.le_refl _) _
  have h4z : w4.heap.size = w3.heap.size + 1 := by rw [hw4]; simp
  have HB4 := Lib.hid (HB3.out.trans (below_le' hb4 HB3.out.size))
  have hV4 : StB w4 w3.heap.size (.int .i64 0) (.int .i64 0) (.string ⟨#[]⟩) (.slice none 0 0) := by rw [hw4]; exact StB.new w3 _ _ _ _
  have HR4 := Lib.hid (HR3.out.below hb4 (by omega))
  have HV4 := Lib.hid hV4
  have HW4 := Lib.hid hw4
  clear hb4 hV4 hw4 HR3 hb3
  go_wp2_with fail
  rw [← HW4.out]
  refine (CC.out w4 HB4.out).mono ?_
  rintro e w5 ⟨sa5, sc5, rfl, hsc5, hr5, hb5⟩
  have h5z := hb5.size
  have HB5 := Lib.hid (HB4.out.trans (below_le' hb5 HB4.out.size))
  have hV5 := HV4.out.below hb5 (by omega)
  have HR5 := Lib.hid (HR4.out.below hb5 (by omega))
  have z0 := hV5.c0; have z1 := hV5.c1; have z2 := hV5.c2; have z3 := hV5.c3; have f0 := hV5.fr 0; have f1 := hV5.fr 1; have f2 := hV5.fr 2; have f3 := hV5.fr 3
  obtain ⟨w6, hw6⟩ : ∃ w6, w6 = (((w5.setCell ⟨w3.heap.size, 0, none⟩ (.int .i64 k)).setCell ⟨w3.heap.size, 1, none⟩ (.int .i64 n)).setCell ⟨w3.heap.size, 2, none⟩ (.string s)).setCell ⟨w3.heap.size, 3, none⟩ (.slice sa5 sub.len sc5) := ⟨_, rfl⟩
  have h6z : w6.heap.size = w5.heap.size := by rw [hw6]; exact size_set4 _ _ _ _ _ _
  have hV6 : StB w6 w3.heap.size (.int .i64 k) (.int .i64 n) (.string s) (.slice sa5 sub.len sc5) := by rw [hw6]; exact hV5.set4 _ _ _ _
  have HB6 := Lib.hid (show Below w.heap.size w w6 by rw [hw6]; exact below_set4 HB5.out (by omega) _ _ _ _)
  have HRP6 := Lib.hid (show RpL w6 (fun b => w4.heap.size ≤ b ∧ b < w5.heap.size) sub sa5 by rw [hw6]; exact hr5.keep (fun c hc => heap_set4 _ _ _ _ _ _ _ (by omega)) (fun c hc => hc))
  have HR6 := Lib.hid (show StB w6 w.heap.size (.int .i64 0) (.int .i64 0) (.string ⟨#[]⟩) (.slice none 0 0) by
    rw [hw6]; exact (heap_set4 _ _ _ _ _ _ _ (by omega)).trans HR5.out)
  have HV6 := Lib.hid hV6
  have HW6 := Lib.hid hw6
  have RC := Lib.hid (HRT.out w6 sa5 sc5 HB6.out hsc5 (HRP6.out.wide (fun b hb => by omega)))
  have y0 := hV6.c0; have y1 := hV6.c1; have y2 := hV6.c2; have y3 := hV6.c3
  clear hb5 hV5 HR5 hr5 hw6 hV6 CC
  go_wp2_with fail
  rw [← HW6.out]
  refine RC.out.mono ?_
  rintro e w7 ⟨code, rfl, hcode, hb7⟩
  have h7z := hb7.size
  have HB7 := Lib.hid (HB6.out.trans (below_le' hb7 HB6.out.size))
  have hR8 := HR6.out.below hb7 (by omega)
  have z0' := hR8.c0; have z1' := hR8.c1; have z2' := hR8.c2; have z3' := hR8.c3; have f0' := hR8.fr 0; have f1' := hR8.fr 1; have f2' := hR8.fr 2; have f3' := hR8.fr 3
  have HF := Lib.hid (valC_end (w := w) (k := 0) (n := 0) (s := ⟨#[]⟩) (sub := .nil) (sb := none) (cb := 0) code (Nat.le_refl _) HB7.out hR8 (Nat.le_refl _) trivial)
  have n1 := bne_yes hcode
  have n0 := beq_no hcode
  clear hb7 hR8 RC HW6 HRP6 y0 y1 y2 y3 z0 z1 z2 z3 f0 f1 f2 f3 HV6 HR6
  go_wp2_with fail
  refine ret_cell4_tmp Tryz.results14 w.heap.size rfl rfl HF.out.1 ?_
  exact ⟨code, hcode, HF.out.2⟩

theorem toliteral_facts : pureP [116, 111, 108, 105, 116, 101, 114, 97, 108] = true ∧ argsP [116, 111, 108, 105, 116, 101, 114, 97, 108] = ([118], true) ∧ arityP [116, 111, 108, 105, 116, 101, 114, 97, 108] = (1, 1) ∧ lettersP [118] = [118] := by decide +kernel
theorem toint_facts : pureP [116, 111, 105, 110, 116] = true ∧ argsP [116, 111, 105, 110, 116] = ([118], true) ∧ arityP [116, 111, 105, 110, 116] = (1, 1) ∧ lettersP [118] = [118] := by decide +kernel
theorem abs_facts : pureP [97, 98, 115] = true ∧ argsP [97, 98, 115] = ([105], true) ∧ arityP [97, 98, 115] = (1, 1) ∧ lettersP [105] = [105] := by decide +kernel
theorem words_facts : pureP [119, 111, 114, 100, 115] = true ∧ argsP [119, 111, 114, 100, 115] = ([115], true) ∧ arityP [119, 111, 114, 100, 115] = (1, 1) ∧ lettersP [115] = [115] := by decide +kernel
theorem join_facts : pureP [106, 111, 105, 110] = true ∧ argsP [106, 111, 105, 110] = ([108, 63, 115], true) ∧ arityP [106, 111, 105, 110] = (1, 2) ∧ lettersP [108, 63, 115] = [108, 115] := by decide +kernel
theorem tostr_facts : pureP [116, 111, 115, 116, 114] = true ∧ argsP [116, 111, 115, 116, 114] = ([118, 43], true) ∧ arityP [116, 111, 115, 116, 114] = (0, -1) ∧ lettersP [118, 43] = [118] := by decide +kernel

theorem fits_of {nm : List UInt8} {a : List UInt8} {l : VL} {x y : Int} (h : argsP nm = (a, true)) (ha : arityP nm = (x, y)) (h1 : ¬ (l.len : Int) < x) (h2 : ¬ (0 ≤ y ∧ y < (l.len : Int))) : fitsP nm l = kindsP (lettersP a) 0 l := by
  unfold fitsP
  rw [h, ha]
  simp only [if_true]
  rw [if_neg h1, if_neg h2]
theorem kinds_v : ∀ (l : VL) (i : Nat), kindsP [118] i l = 0
  | .nil, _ => rfl
  | .cons k n s v r, i => by
    rw [kindsP_cons]
    have : ([118] : List UInt8).getD (min i (([118] : List UInt8).length - 1)) 0 = 118 := by simp
    rw [this, if_pos (by unfold kindB; rfl), kinds_v r]
theorem kinds_1 (c : UInt8) (k n : Int) (s : ByteArray) (v : VL) (h : kindB c k = true) (r : List UInt8) : kindsP (c :: r) 0 (.cons k n s v .nil) = 0 := by
  rw [kindsP_cons]
  have : (c :: r).getD (min 0 ((c :: r).length - 1)) 0 = c := by simp
  rw [this, if_pos h]
  rfl
end Go.Proofs.YtbalpfpcbckghaaGreatDoor
namespace Go.Proofs.YtbalpfpcbckghaaGreatDoor
open Go.RowKit Go.Lib
set_option linter.unusedVariables false

def idxL : List UInt8 := [105, 110, 100, 101, 120]
theorem idx_args : argsP idxL = ([115, 115], true) := by decide +kernel
theorem idx_arity : arityP idxL = (2, 2) := by decide +kernel
theorem idx_letters : lettersP [115, 115] = [115, 115] := by decide +kernel
theorem idx_pure : pureP idxL = true := by decide +kernel
theorem idx_fits (n1 n2 : Int) (s t : ByteArray) (v1 v2 : VL) : fitsP idxL (.cons 2 n1 s v1 (.cons 2 n2 t v2 .nil)) = 0 := by
  unfold fitsP
  rw [idx_args, idx_arity]
  simp only [if_true, idx_letters]
  rw [if_neg (by show ¬ ((2 : Nat) : Int) < 2; decide), if_neg (by show ¬ (0 ≤ (2 : Int) ∧ (2 : Int) < ((2 : Nat) : Int)); decide)]
  rfl
theorem idx_abc : Lib.index [97, 98, 99] [99] = 2 := by decide +kernel

set_option maxRecDepth 100000 in
set_option maxHeartbeats 4000000 in
theorem funfirst_c (ea : Nat → Addr) (w : World) (he : FnEnv w) (hea : ErrsAt w ea) : Calls Tryz.prog 7 #[] w fun e w' => e = .returned (.bool true) ∧ Below w.heap.size w w' := by
  have hroom := he.room
  obtain ⟨s, hs⟩ : ∃ s : ByteArray, s = ⟨#[97, 98, 99]⟩ := ⟨_, rfl⟩
  obtain ⟨t, ht⟩ : ∃ t : ByteArray, t = ⟨#[99]⟩ := ⟨_, rfl⟩
  obtain ⟨nm, hnm⟩ : ∃ nm : ByteArray, nm = ⟨#[105, 110, 100, 101, 120]⟩ := ⟨_, rfl⟩
  have SC1 := Lib.hid (fun W => valS_c s W)
  have SC2 := Lib.hid (fun W => valS_c t W)
  have CC : Hid (∀ W, Below w.heap.size w W → ∀ g, g < W.heap.size → W.heap[g]? = some (.cells #[.int .i64 2, .int .i64 0, .string s, .slice none 0 0, .int .i64 2, .int .i64 0, .string t, .slice none 0 0] 24) →
      Calls Tryz.prog 14 #[.string nm, .slice (some ⟨g, 0, none⟩) 2 2] W (PValC W 0 3 ⟨#[]⟩ .nil 0)) := Lib.hid (fun W hW g hg hh => by
    have hrep : RpL W (fun b => b < W.heap.size) (.cons 2 0 s .nil (.cons 2 0 t .nil .nil)) (some ⟨g, 0, none⟩) :=
      ⟨g, 0, none, 0, rfl, hg, cell_of_row _ _ 0 _ _ _ hh, cell_of_row _ _ 1 _ _ _ hh, cell_of_row _ _ 2 _ _ _ hh, cell_of_row _ _ 3 _ _ _ hh, Nat.le_refl _, trivial,
        g, 4, none, 0, rfl, hg, cell_of_row _ _ 4 _ _ _ hh, cell_of_row _ _ 5 _ _ _ hh, cell_of_row _ _ 6 _ _ _ hh, cell_of_row _ _ 7 _ _ _ hh, Nat.le_refl _, trivial, trivial⟩
    have hnl : nm.data.toList = idxL := by rw [hnm]; rfl
    have h3 : Lib.index s.data.toList t.data.toList + 1 = 3 := by rw [hs, ht]; show Lib.index [97, 98, 99] [99] + 1 = 3; rw [idx_abc]; rfl
    refine Call_good nm (.cons 2 0 s .nil (.cons 2 0 t .nil .nil)) (some ⟨g, 0, none⟩) 2 0 3 ⟨#[]⟩ .nil ea W (he.below hW (by omega)) (hea.below hW (by omega)) (Nat.le_refl _) (by show 2 ≤ 100000; decide) hrep (by rw [hnl]; exact idx_pure) (by rw [hnl]; exact idx_fits _ _ _ _ _ _) (by decide) (by decide) trivial (by decide) (by decide +kernel) (fun W2 hW2 hr2 => ?_)
    have := call_index s t 0 0 .nil .nil .nil (some ⟨g, 0, none⟩) 2 W2 (by rw [hs]; decide) ((he.below hW (by omega)).below hW2 (by have := hW.size; omega)).mx (by have := hW.size; have := hW2.size; omega) (Nat.le_refl _) (by decide) hr2 nm hnl
    rw [h3] at this
    exact this)
  have h1 : (nm.size : Int) = 5 := by rw [hnm]; rfl
  clear he hea
  go_enter Tryz.func7, Tryz.ntmps7
  go_wp2_with fail
  rw [← hs]
  refine (SC1.out _).mono ?_
  rintro e w1 ⟨rfl, hw1⟩
  have hb1 : Below w.heap.size w w1 := by rw [← hw1]; exact (Below.refl _ _).alloc (Nat.le_refl _) _
  have HB1 := Lib.hid hb1
  clear hw1 hb1
  go_wp2_with fail
  rw [← ht]
  refine (SC2.out _).mono ?_
  rintro e w2 ⟨rfl, hw2⟩
  have hb2 : Below w.heap.size w w2 := by rw [← hw2]; exact HB1.out.alloc HB1.out.size _
  obtain ⟨w3, hw3⟩ : ∃ w3, w3 = w2.alloc (.cells #[.int .i64 2, .int .i64 0, .string ⟨#[97, 98, 99]⟩, .slice none 0 0, .int .i64 2, .int .i64 0, .string ⟨#[99]⟩, .slice none 0 0] 24) := ⟨_, rfl⟩
  have hb3 : Below w.heap.size w w3 := by rw [hw3]; exact hb2.alloc hb2.size _
  have C3 := Lib.hid (CC.out w3 hb3 w2.heap.size (by rw [hw3]; simp) (by rw [hw3, hs, ht]; exact heap_alloc_new w2 _))
  have HB3 := Lib.hid hb3
  have HW3 := Lib.hid hw3
  clear hw2 hb2 hw3 hb3 CC
  go_wp2_with fail
  rw [← hnm, ← HW3.out]
  refine C3.out.mono ?_
  rintro e w4 ⟨sa, sc, rfl, hsc, hr4, hb4⟩
  have HB4 := Lib.hid (HB3.out.trans (below_le' hb4 HB3.out.size))
  clear hb4 hr4 hsc
  go_wp2_with fail
  go_ret
  exact ⟨rfl, HB4.out.alloc HB4.out.size _⟩

end Go.Proofs.YtbalpfpcbckghaaGreatDoor
namespace Go.Proofs.YtbalpfpcbckghaaGreatDoor
open Go.RowKit Go.Lib
set_option linter.unusedVariables false

/-- Are texts few and short? -/
def textsB (l : List (List UInt8)) (most long : Nat) : Bool := decide (l.length ≤ most) && l.all fun x => decide (x.length ≤ long)
set_option maxRecDepth 100000 in
set_option maxHeartbeats 1000000 in
theorem texts_c (A : Option Addr) (c : Nat) (l : List (List UInt8)) (most long : Nat) (w : World) (h : StrO w A l) (hm : most ≤ 1000000) (hlg : long ≤ 1000000) (hl : l.length ≤ 9223372036854775807) :
    Calls Tryz.prog 18 #[.slice A l.length c, .int .i64 (most : Int), .int .i64 (long : Int)] w fun e w' => e = .returned (.bool (textsB l most long)) ∧ w = w' := by
  obtain ⟨r, hr⟩ : ∃ r, r = textsB l most long := ⟨_, rfl⟩
  rw [← hr]
  have HR := Lib.hid hr
  have HH := Lib.hid h
  clear hr h
  by_cases hbig : most < l.length
  · have hd : (most : Int) < (l.length : Int) := by omega
    have HE := Lib.hid (show r = false by rw [HR.out]; unfold textsB; rw [decide_eq_false (by omega), Bool.false_and])
    go_enter Tryz.func18, Tryz.ntmps18
    go_wp2_with fail
    go_ret
    exact ⟨by rw [HE.out]; rfl, rfl⟩
  · have hd : ¬ (most : Int) < (l.length : Int) := by omega
    have hln : l.length ≤ 1000000 := by omega
    go_enter Tryz.func18, Tryz.ntmps18
    go_wp2_with fail
    go_loopg [7] l.length (fun kk iv wr => ∃ i : Nat, iv = .int .i64 (i : Int) ∧ i + kk = l.length ∧ w = wr ∧ Hid ((l.take i).all (fun x => decide (x.length ≤ long)) = true))
    case atStart => exact ⟨0, rfl, by omega, rfl, rfl⟩
    case round =>
      obtain ⟨i, rfl, hk, rfl, ha⟩ := hrel
      by_cases hi : i < l.length
      · obtain ⟨kk, rfl⟩ : ∃ kk, gk = kk + 1 := ⟨gk - 1, by omega⟩
        obtain ⟨x, hx⟩ : ∃ x, l[i]? = some x := ⟨_, List.getElem?_eq_getElem hi⟩
        obtain ⟨ga, oa, rfl, hga, hca⟩ : ∃ g o, A = some ⟨g, o, none⟩ ∧ g < w.heap.size ∧ ∀ j x, l[j]? = some x → w.cell? ⟨g, o + j, none⟩ = some (.string ⟨x.toArray⟩) := by
          rcases HH.out with h | h
          · rw [h] at hi; exact absurd hi (Nat.not_lt_zero _)
          · exact h
        have ca := hca i x hx
        obtain ⟨b, hb⟩ : ∃ b : ByteArray, b = ⟨x.toArray⟩ := ⟨_, rfl⟩
        have hbz : b.size = x.length := by rw [hb]; simp [ByteArray.size]
        rw [← hb] at ca
        have ht : l.take (i + 1) = l.take i ++ [x] := by
          rw [List.take_add_one, hx]; rfl
        have HBZ := Lib.hid hbz
        have HT := Lib.hid ht
        by_cases hxl : long < x.length
        · have hd2 : (long : Int) < (b.size : Int) := by omega
          have HE := Lib.hid (show r = false by
            rw [HR.out]; unfold textsB
            rw [Bool.and_eq_false_iff]
            right
            rw [List.all_eq_false]
            exact ⟨x, List.mem_of_getElem? hx, by rw [decide_eq_true_eq]; omega⟩)
          clear hca hx hb hbz ht ha
          go_wp2_with fail
          go_ret
          exact ⟨by rw [HE.out]; rfl, rfl⟩
        · have hd2 : ¬ (long : Int) < (b.size : Int) := by omega
          have HE := Lib.hid (show (l.take (i + 1)).all (fun x => decide (x.length ≤ long)) = true by
            rw [HT.out, List.all_append, ha.out, Bool.true_and, List.all_cons, decide_eq_true (by omega), Bool.true_and]; rfl)
          clear hca hx hb hbz ht ha
          go_wp2_with fail
          go_roundg kk
          case measure => omega
          case rel => exact ⟨i + 1, by go_num, by omega, rfl, HE.out⟩
      · have hge : ¬ (i : Int) < (l.length : Int) := by omega
        have HE := Lib.hid (show r = true by
          rw [HR.out]; unfold textsB
          have := ha.out
          rw [List.take_of_length_le (by omega)] at this
          rw [this, decide_eq_true (by omega)]; rfl)
        clear ha
        go_wp2_with fail
        go_ret
        exact ⟨by rw [HE.out]; rfl, rfl⟩

end Go.Proofs.YtbalpfpcbckghaaGreatDoor
