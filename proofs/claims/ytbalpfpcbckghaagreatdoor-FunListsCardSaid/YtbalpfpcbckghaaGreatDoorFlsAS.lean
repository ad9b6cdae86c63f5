/- Contracts of the functions that the statement reaches, and the plain mathematics beneath: several texts joined. -/
import Derived.Deep.AppendLies
import Derived.Test.YtbalpfpcbckghaaGreatDoorFlsAB
import Derived.Test.YtbalpfpcbckghaaGreatDoorFlsAP
import Derived.Test.YtbalpfpcbckghaaGreatDoorFlsAM
import Derived.Test.YtbalpfpcbckghaaGreatDoorFlsAI
import Derived.Test.YtbalpfpcbckghaaGreatDoorFlsAL
namespace Go.Proofs.YtbalpfpcbckghaaGreatDoor
open Go.RowKit Go.Lib
set_option linter.unusedVariables false
set_option linter.unusedSimpArgs false

/-- A row, and a value behind it. -/
theorem rep_snoc {w0 w w' : World} {base g cap : Nat} {V : Value} {l : VL} {xs : List Value} (h : CInv base w0 w V l xs) {k n : Int} {s : ByteArray} {sub : VL} {va : Option Addr} {vc : Nat} (hvc : sub.len ≤ vc) (hrv : RpL w (fun b => b < base) sub va)
    (hown : w'.ownsRow base 24 4 (.slice (some ⟨g, 0, none⟩) (l.len + 1) cap) (l.len + 1) (xs ++ [.int .i64 k, .int .i64 n, .string s, .slice va sub.len vc])) (hg : ∀ b, b < w.heap.size → V.ownBlock ≠ some b → w'.heap[b]? = w.heap[b]?) (hz : w.heap.size ≤ w'.heap.size) :
    (l.app (.cons k n s sub .nil)).len ≤ cap ∧ RpL w' (fun b => b < w'.heap.size) (l.app (.cons k n s sub .nil)) (some ⟨g, 0, none⟩) := by
  have hVg : ∀ b, V.ownBlock = some b → base ≤ b := fun b hb => own_ge h.own b hb
  have hzb := h.size
  have hC : CellsOf w' (fun b => b < w'.heap.size) (l.app (.cons k n s sub .nil)) (xs ++ [.int .i64 k, .int .i64 n, .string s, .slice va sub.len vc]) := by
    refine CellsOf.app _ _ _ _ (h.cells.keep (fun b hb => hg b hb.2.1 hb.2.2) (fun b hb => Nat.lt_of_lt_of_le hb.2.1 hz)) ⟨va, vc, [], rfl, hvc, ?_, rfl⟩
    exact hrv.keep (fun b hb => hg b (by omega) (fun e => by have := hVg b e; omega)) (fun b hb => by omega)
  have hl : (l.app (.cons k n s sub .nil)).len = l.len + 1 := by rw [VL.len_app]; rfl
  rw [← hl] at hown
  obtain ⟨sb, cb, e, hc, r⟩ := own_rep hown hC (S := fun b => b < w'.heap.size) (fun b hb => own_lt hown b hb)
  injection e with e1 e2 e3
  rw [e1, e3]
  exact ⟨hc, r⟩
theorem drop_app : ∀ (l m : VL), (l.app m).drop l.len = m
  | .nil, m => rfl
  | .cons k n s sub r, m => by
    show ((VL.cons k n s sub (r.app m)).drop (r.len + 1)) = m
    rw [VL.drop, drop_app r m]
/-- The last item of a row; the first one. -/
theorem item_last {w : World} {S : Nat → Prop} {A l : VL} {k n : Int} {s : ByteArray} {sub : VL} {sb : Option Addr} (hA : A = l.app (.cons k n s sub .nil)) (h : RpL w S A sb) :
    ∃ (g o : Nat) (p : Option Addr) (q : Nat), sb = some ⟨g, o, none⟩ ∧ S g ∧ w.cell? ⟨g, o + l.len * 4, none⟩ = some (.int .i64 k) ∧ w.cell? ⟨g, o + l.len * 4 + 1, none⟩ = some (.int .i64 n) ∧ w.cell? ⟨g, o + l.len * 4 + 2, none⟩ = some (.string s) ∧ w.cell? ⟨g, o + l.len * 4 + 3, none⟩ = some (.slice p sub.len q) ∧ sub.len ≤ q ∧ RpL w S sub p := by
  have hl : l.len < A.len := by rw [hA, VL.len_app]; show l.len < l.len + 1; omega
  obtain ⟨g, o, k1, n1, s1, u1, p, q, he, hd, hS, c0, c1, c2, c3, hc, hr, -⟩ := rp_at h hl
  rw [hA, drop_app] at hd
  injection hd with e1 e2 e3 e4 _
  subst e1; subst e2; subst e3; subst e4
  exact ⟨g, o, p, q, he, hS, c0, c1, c2, c3, hc, hr⟩
theorem item_first {w : World} {S : Nat → Prop} {B l : VL} {k n : Int} {s : ByteArray} {sub : VL} {sb : Option Addr} (hB : B = .cons k n s sub l) (h : RpL w S B sb) :
    ∃ (g o : Nat) (p : Option Addr) (q : Nat), sb = some ⟨g, o, none⟩ ∧ S g ∧ w.cell? ⟨g, o, none⟩ = some (.int .i64 k) ∧ w.cell? ⟨g, o + 1, none⟩ = some (.int .i64 n) ∧ w.cell? ⟨g, o + 2, none⟩ = some (.string s) ∧ w.cell? ⟨g, o + 3, none⟩ = some (.slice p sub.len q) ∧ sub.len ≤ q ∧ RpL w S sub p := by
  subst hB
  obtain ⟨g, o, p, q, he, hS, c0, c1, c2, c3, hc, hr, -⟩ := h
  exact ⟨g, o, p, q, he, hS, c0, c1, c2, c3, hc, hr⟩
theorem item_mid {w : World} {S : Nat → Prop} {P l r : VL} {k n : Int} {s : ByteArray} {sub : VL} {i : Nat} {sb : Option Addr} (hP : P = (l.take i).app (.cons k n s sub r)) (hi : i ≤ l.len) (h : RpL w S P sb) :
    ∃ (g o : Nat) (p : Option Addr) (q : Nat), sb = some ⟨g, o, none⟩ ∧ S g ∧ w.cell? ⟨g, o + i * 4, none⟩ = some (.int .i64 k) ∧ w.cell? ⟨g, o + i * 4 + 1, none⟩ = some (.int .i64 n) ∧ w.cell? ⟨g, o + i * 4 + 2, none⟩ = some (.string s) ∧ w.cell? ⟨g, o + i * 4 + 3, none⟩ = some (.slice p sub.len q) ∧ sub.len ≤ q ∧ RpL w S sub p := by
  have ht := take_vlen i l hi
  have hl : i < P.len := by rw [hP, VL.len_app, ht]; show i < i + (r.len + 1); omega
  obtain ⟨g, o, k1, n1, s1, u1, p, q, he, hd, hS, c0, c1, c2, c3, hc, hr, -⟩ := rp_at h hl
  have hdd : P.drop i = .cons k n s sub r := by
    have e := drop_app (l.take i) (.cons k n s sub r)
    rw [ht] at e
    rw [hP]; exact e
  rw [hdd] at hd
  injection hd with e1 e2 e3 e4 _
  subst e1; subst e2; subst e3; subst e4
  exact ⟨g, o, p, q, he, hS, c0, c1, c2, c3, hc, hr⟩
theorem cinv_shape {base : Nat} {w0 wr : World} {V : Value} {l : VL} {xs : List Value} (h : CInv base w0 wr V l xs) : ∃ (sb : Option Addr) (cb : Nat), V = .slice sb l.len cb ∧ l.len ≤ cb ∧ RpL wr (fun b => base ≤ b ∧ b < wr.heap.size) l sb ∧ ((sb = none ∧ cb = 0) ∨ ∃ b o, sb = some ⟨b, o, none⟩) := by
  obtain ⟨sb, cb, e, h1, h2⟩ := h.rep
  refine ⟨sb, cb, e, h1, h2, ?_⟩
  rcases h.own.2 with ⟨e2, _⟩ | ⟨g, cap, cur, e2, _⟩
  · rw [e] at e2
    injection e2 with e2 e3 e4
    exact .inl ⟨e2, e4⟩
  · rw [e] at e2
    injection e2 with e2
    exact .inr ⟨g, 0, e2⟩
/-- What an append of a value onto a row of the call's own leaves. -/
theorem app_out {w0 w6 W w7 : World} {base g cap : Nat} {V : Value} {l A : VL} {xs : List Value} (h : CInv base w0 w6 V l xs) {k n : Int} {s : ByteArray} {sub : VL} {va : Option Addr} {vc : Nat} (hA : A = l.app (.cons k n s sub .nil)) (hvc : sub.len ≤ vc) (hrv : RpL w6 (fun b => b < base) sub va)
    (hW : Below w6.heap.size w6 W) (hown : w7.ownsRow base 24 4 (.slice (some ⟨g, 0, none⟩) (l.len + 1) cap) (l.len + 1) (xs ++ [.int .i64 k, .int .i64 n, .string s, .slice va sub.len vc])) (hg : W.grownBy w7 V.ownBlock) :
    A.len ≤ cap ∧ RpL w7 (fun b => b < w7.heap.size) A (some ⟨g, 0, none⟩) ∧ Below base w0 w7 := by
  subst hA
  have hz := hW.size
  have hz7 := hg.size
  have hB : ∀ b, b < w6.heap.size → V.ownBlock ≠ some b → w7.heap[b]? = w6.heap[b]? := fun b hb hne => (hg.block b (by omega) (fun e => hne e.symm)).trans (hW.block b hb)
  obtain ⟨h1, h2⟩ := rep_snoc h hvc hrv hown hB (by omega)
  have hsz := h.size
  have hb := h.below
  refine ⟨h1, h2, ?_⟩
  exact grown_below (hb.trans (below_le' hW hsz)) (by omega) hg (fun b hbk => own_ge h.own b hbk)
set_option maxRecDepth 100000 in
set_option maxHeartbeats 8000000 in
theorem law_r6 {K K1 : Act → World → Prop} {R : Ending → World → Prop} {v : World} {l A : VL} {sa : Option Addr} {sc gv : Nat} {k' n' : Int} {s' : ByteArray} {sub' : VL} {va : Option Addr} {vc : Nat} {fv : Int} {m1 m2 m3 m5 m6 m7 m8 m9 m10 m11 m12 m13 m14 m15 m16 m17 m18 m19 m20 m21 m22 m23 m24 m25 m26 m27 m28 m29 m30 m31 m32 m33 m34 m35 m36 m37 m38 m39 m40 m41 m42 m43 m44 m45 m46 m47 m48 m49 m50 m51 m52 m53 m54 m55 m56 m57 m58 m59 m60 m61 m62 m63 m64 m65 m66 m67 m68 m69 m70 m71 m72 m73 m74 m75 m76 m77 m78 m79 m80 m81 m82 m83 m84 m85 m86 m87 m88 m89 m90 m91 m92 m93 m94 m95 m96 m97 m98 m99 m100 m101 m102 m103 m104 m105 m106 m107 m108 m109 m110 m111 m112 m113 m114 m115 m116 m117 m118 m119 m120 m121 m122 m123 m124 m125 m126 m127 m128 m129 m130 m131 m132 m133 m134 m135 m136 m137 m138 m139 m140 m141 m142 m143 m144 m145 m146 m147 m148 m149 m150 m151 m152 m153 m154 m155 m156 m157 m158 m159 m160 m161 m162 m163 m164 m165 m166 m167 m168 m169 m170 m171 m172 m173 m174 m175 m176 m177 m178 m179 m180 m181 m182 m183 m184 m185 m186 m187 m188 m189 m190 m191 m192 m193 m194 m195 m196 m197 m198 m199 m200 m201 m202 m203 m204 m205 m206 m207 m208 m209 m210 m211 m212 m213 m214 m215 m216 m217 m218 m219 m220 m221 m222 m223 m224 m225 m226 m227 m228 m229 m230 m231 m232 m233 m234 m235 : Value}
    (hv : StB v gv (.int .i64 k') (.int .i64 n') (.string s') (.slice va sub'.len vc)) (hA : A = l.app (.cons k' n' s' sub' .nil)) (hl30 : l.len ≤ 30) (hvc : sub'.len ≤ vc)
    (hrv : ∀ W, Below v.heap.size v W → RpL W (fun b => b < v.heap.size) sub' va)
    (hval : ∀ W, Below v.heap.size v W → Calls Tryz.prog 12 #[.slice sa l.len sc] W fun e w' => ∃ (V : Value) (xs : List Value), e = .returned V ∧ CInv W.heap.size W w' V l xs)
    (hlst : ∀ (g cap : Nat) (W : World), A.len ≤ cap → RpL W (fun b => b < W.heap.size) A (some ⟨g, 0, none⟩) → Calls Tryz.prog 10 #[.slice (some ⟨g, 0, none⟩) (l.len + 1) cap] W (PCopy W 4 0 ⟨#[]⟩ A))
    (hfit : ∀ (sb : Option Addr) (cb : Nat) (W : World), A.len ≤ cb → RpL W (fun b => b < W.heap.size) A sb → Calls Tryz.prog 11 #[.agg #[.int .i64 4, .int .i64 0, .string ⟨#[]⟩, .slice sb A.len cb]] W (fun e w' => e = .returned (.int .i64 fv) ∧ Below W.heap.size W w'))
    (hK : ∀ (t50 t51 t52 t53 t54 t55 t56 : Value) (wx : World), Below v.heap.size v wx → K { tmps := #[.slice sa l.len sc, m1, m2, m3, .pointer (some ⟨gv, 0, none⟩), m5, m6, m7, m8, m9, m10, m11, m12, m13, m14, m15, m16, m17, m18, m19, m20, m21, m22, m23, m24, m25, m26, m27, m28, m29, m30, m31, m32, m33, m34, m35, m36, m37, m38, m39, m40, m41, m42, m43, m44, m45, m46, m47, m48, m49, t50, t51, t52, t53, t54, t55, t56, .bool (fv != 0), m58, m59, m60, m61, m62, m63, m64, m65, m66, m67, m68, m69, m70, m71, m72, m73, m74, m75, m76, m77, m78, m79, m80, m81, m82, m83, m84, m85, m86, m87, m88, m89, m90, m91, m92, m93, m94, m95, m96, m97, m98, m99, m100, m101, m102, m103, m104, m105, m106, m107, m108, m109, m110, m111, m112, m113, m114, m115, m116, m117, m118, m119, m120, m121, m122, m123, m124, m125, m126, m127, m128, m129, m130, m131, m132, m133, m134, m135, m136, m137, m138, m139, m140, m141, m142, m143, m144, m145, m146, m147, m148, m149, m150, m151, m152, m153, m154, m155, m156, m157, m158, m159, m160, m161, m162, m163, m164, m165, m166, m167, m168, m169, m170, m171, m172, m173, m174, m175, m176, m177, m178, m179, m180, m181, m182, m183, m184, m185, m186, m187, m188, m189, m190, m191, m192, m193, m194, m195, m196, m197, m198, m199, m200, m201, m202, m203, m204, m205, m206, m207, m208, m209, m210, m211, m212, m213, m214, m215, m216, m217, m218, m219, m220, m221, m222, m223, m224, m225, m226, m227, m228, m229, m230, m231, m232, m233, m234, m235], defers := [] } wx) :
    (regOf 6 (Tryz.f3.body.getD .skip)).wp Tryz.prog (Exit.then K (Exit.then K1 (bodyPost Tryz.prog Tryz.f3 R))) { tmps := #[.slice sa l.len sc, m1, m2, m3, .pointer (some ⟨gv, 0, none⟩), m5, m6, m7, m8, m9, m10, m11, m12, m13, m14, m15, m16, m17, m18, m19, m20, m21, m22, m23, m24, m25, m26, m27, m28, m29, m30, m31, m32, m33, m34, m35, m36, m37, m38, m39, m40, m41, m42, m43, m44, m45, m46, m47, m48, m49, m50, m51, m52, m53, m54, m55, m56, m57, m58, m59, m60, m61, m62, m63, m64, m65, m66, m67, m68, m69, m70, m71, m72, m73, m74, m75, m76, m77, m78, m79, m80, m81, m82, m83, m84, m85, m86, m87, m88, m89, m90, m91, m92, m93, m94, m95, m96, m97, m98, m99, m100, m101, m102, m103, m104, m105, m106, m107, m108, m109, m110, m111, m112, m113, m114, m115, m116, m117, m118, m119, m120, m121, m122, m123, m124, m125, m126, m127, m128, m129, m130, m131, m132, m133, m134, m135, m136, m137, m138, m139, m140, m141, m142, m143, m144, m145, m146, m147, m148, m149, m150, m151, m152, m153, m154, m155, m156, m157, m158, m159, m160, m161, m162, m163, m164, m165, m166, m167, m168, m169, m170, m171, m172, m173, m174, m175, m176, m177, m178, m179, m180, m181, m182, m183, m184, m185, m186, m187, m188, m189, m190, m191, m192, m193, m194, m195, m196, m197, m198, m199, m200, m201, m202, m203, m204, m205, m206, m207, m208, m209, m210, m211, m212, m213, m214, m215, m216, m217, m218, m219, m220, m221, m222, m223, m224, m225, m226, m227, m228, m229, m230, m231, m232, m233, m234, m235], defers := [] } v := by
  obtain ⟨i0, hi0, hz0, hz1, hz2⟩ := info_parts val_info
  have HK := Lib.hid hK
  have HA := Lib.hid hA
  have HRV := Lib.hid hrv
  have LRF := Lib.hid hlst
  have FTC := Lib.hid hfit
  have HV := Lib.hid (fun (W : World) (hW : Below v.heap.size v W) => hv.below' hW)
  have VOA := Lib.hid (hval v.drew (Below.refl _ _).drew)
  have VOB := Lib.hid (hval (v.alloc (.cells #[.int .i64 k', .int .i64 n', .string s', .slice va sub'.len vc] 24)).drew ((Below.refl v.heap.size v).alloc (Nat.le_refl _) _).drew)
  have y0 := hv.c0; have y1 := hv.c1; have y2 := hv.c2; have y3 := hv.c3
  clear hK hA hrv hlst hfit hval hv
  conv in regOf _ _ => whnf
  go_region_law
    (first
      | (go_simp; go_at_call 12; with_reducible refine VOA.out.mono ?_
         rintro e w6 ⟨V, xs, rfl, C⟩
         have hB6 := ((Below.refl v.heap.size v).drew).trans C.below
         have hv6 := HV.out _ hB6
         have y0 := hv6.c0; have y1 := hv6.c1; have y2 := hv6.c2; have y3 := hv6.c3
         have APA := Lib.hid (And.intro C hB6)
         clear C hB6 hv6)
      | (go_simp; go_at_call 12; with_reducible refine VOB.out.mono ?_
         rintro e w6 ⟨V, xs, rfl, C⟩
         have APB := Lib.hid C
         clear C)
      | (refine step_append_lies _ (by rfl) (.tmp 51) (.tmp 53) 22 (by rfl) v.heap.size 24 i0 _ 4 56 Tryz.underlying22 hi0 hz0 hz1 hz2 rfl (by decide) V l.len xs (by rfl) (own_below APA.out.1.own ((Below.refl _ _).alloc (Nat.le_refl _) _)) ⟨w6.heap.size, 0, none⟩ 1 1 [.int .i64 k', .int .i64 n', .string s', .slice va sub'.len vc] (by rfl) (by rfl) (World.news_of_block (cs := #[.int .i64 k', .int .i64 n', .string s', .slice va sub'.len vc]) (heap_alloc_new w6 _)) (by intro u hu; simp at hu; rcases hu with rfl | rfl | rfl | rfl <;> rfl) (by decide) (by unfold maxLen; omega) (by omega) (by have := APA.out.1.size; have e : v.drew.heap.size = v.heap.size := rfl; simp; omega) _ rfl ?_
         intro g cap w7 hown hg hat hlt
         have AO := Lib.hid (app_out APA.out.1 HA.out hvc ((HRV.out w6 APA.out.2).wide (fun b hb => by have e : v.drew.heap.size = v.heap.size := rfl; omega)) ((Below.refl _ _).alloc (Nat.le_refl _) _) hown hg)
         have AOB := Lib.hid (((Below.refl v.heap.size v).drew).trans AO.out.2.2)
         clear hown hg hat)
      | (refine step_append_lies _ (by rfl) (.tmp 51) (.tmp 53) 22 (by rfl) _ 24 i0 _ 4 56 Tryz.underlying22 hi0 hz0 hz1 hz2 rfl (by decide) V l.len xs (by rfl) APB.out.own ⟨v.heap.size, 0, none⟩ 1 1 [.int .i64 k', .int .i64 n', .string s', .slice va sub'.len vc] (by rfl) (by rfl) (World.news_of_block (cs := #[.int .i64 k', .int .i64 n', .string s', .slice va sub'.len vc]) ((APB.out.below.block v.heap.size (by show _ < (v.alloc _).heap.size; simp)).trans (heap_alloc_new v _))) (by intro u hu; simp at hu; rcases hu with rfl | rfl | rfl | rfl <;> rfl) (by decide) (by unfold maxLen; omega) (by omega) (by exact APB.out.size) _ rfl ?_
         intro g cap w7 hown hg hat hlt
         have hai : (v.alloc (.cells #[.int .i64 k', .int .i64 n', .string s', .slice va sub'.len vc] 24)).drew.heap.size = v.heap.size + 1 := by show (v.alloc _).heap.size = _; simp
         have hB6 := (((Below.refl v.heap.size v).alloc (Nat.le_refl _) (.cells #[.int .i64 k', .int .i64 n', .string s', .slice va sub'.len vc] 24)).drew).trans (below_le' APB.out.below (by omega))
         have AO := Lib.hid (app_out APB.out HA.out hvc ((HRV.out w6 hB6).wide (fun b hb => by omega)) (Below.refl _ _) hown hg)
         have AOB := Lib.hid ((((Below.refl v.heap.size v).alloc (Nat.le_refl _) (.cells #[.int .i64 k', .int .i64 n', .string s', .slice va sub'.len vc] 24)).drew).trans (below_le' AO.out.2.2 (by omega)))
         clear hown hg hat hB6 hai)
      | (go_simp; go_at_call 10
         refine (LRF.out _ _ _ AO.out.1 AO.out.2.1).mono ?_
         rintro e w8 ⟨sb8, cb8, rfl, hcb8, hrb8, hb8⟩
         have L8 := Lib.hid (And.intro hcb8 (And.intro (hrb8.wide (fun b hb => hb.2)) hb8))
         clear hcb8 hrb8 hb8)
      | (go_simp; go_at_call 11
         refine (FTC.out _ _ _ L8.out.1 L8.out.2.1).mono ?_
         rintro e w9 ⟨rfl, hb9⟩
         have L9 := Lib.hid hb9
         clear hb9))
  all_goals
    go_wp2_with fail
    exact HK.out _ _ _ _ _ _ _ _ (AOB.out.trans (below_le' (L8.out.2.2.trans (below_le' L9.out L8.out.2.2.size)) AOB.out.size))
end Go.Proofs.YtbalpfpcbckghaaGreatDoor
