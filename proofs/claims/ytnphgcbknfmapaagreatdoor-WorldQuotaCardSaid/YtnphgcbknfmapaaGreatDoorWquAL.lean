/- Contracts of the functions that the statement reaches, and the plain mathematics beneath: several texts joined. -/
import Derived.ArgAppend
import Derived.Test.YtnphgcbknfmapaaGreatDoorWquAK
import Derived.Test.YtnphgcbknfmapaaGreatDoorWquAJ
namespace Go.Proofs.YtnphgcbknfmapaaGreatDoor
open Go.RowKit Go.Lib
set_option linter.unusedVariables false
set_option linter.unusedSimpArgs false
section
variable {B a m gW : Nat} {w0 w w' : World} {l l' : List OB} {mx mx' o : Int} {K : List (Nat × Obj)} {x : OB} {id : Int} {wz pg : Bool}
theorem neq_other (w : World) {g h : Nat} {cg ch : Array Value} {tg th : TypeId} (hne : g ≠ h) (hg : w.heap[g]? = some (.cells cg tg (0, 0))) (hh : w.heap[h]? = some (.cells ch th (0, 0))) : (binOp .neq 81 (.pointer (some ⟨g, 0, none⟩)) (.pointer (some ⟨h, 0, none⟩))).run Tryz.prog w = .ok (.bool true) w := by
  cases hj : Tryz.prog.info? 29 with
  | none => have := obj_psize; rw [hj] at this; cases this
  | some j =>
    have hsz : j.size ≠ 0 := by
      have := obj_psize
      rw [hj] at this
      simp only [Option.map_some, Option.some.injEq] at this
      omega
    have hn : (⟨g, 0, none⟩ : Addr) ≠ ⟨h, 0, none⟩ := fun e => hne (by injection e)
    have h : ∀ d : Nat, (Op.equalIn (d + 1) 81 (.pointer (some ⟨g, 0, none⟩)) (.pointer (some ⟨h, 0, none⟩))).run Tryz.prog w = .ok false w := fun d => by
      simp [Op.equalIn, run_underlying obj_ptr, sizeOf, typeInfo, hj, hsz, run_sameAddr_other w hn hg hh]
    simp only [binOp]
    simp [Op.equal, Op.maxDepth, h 9999]
/-- A quota set where it lies. -/
theorem quota_S {T : List OM} (h : TS w B a m T mx) {x : OM} (hx : findT T o = some x) (q : Int) : StS w (w.setCell ⟨x.g, 5, none⟩ (.int .i64 q)) B a m T (repT T o ⟨{ x.o with quota := q }, x.g, x.dv, x.sv⟩) mx mx :=
  h.field hx 5 (.int .i64 q) { x.o with quota := q } rfl rfl rfl rfl (okS_upd h.ok (getO_some' hx) (fun y => { y with quota := q }) rfl (fun _ => rfl) (fun _ => rfl) (fun _ => rfl) (fun _ => rfl) (fun _ => rfl))
theorem two9_c {B1 B2 : Option Addr} {m1 m2 e1 e2 : Nat} (ow : Int) (y : OB) (w : World) (hfl : (Go.bits .and .i64 y.flags 32 != 0) = true) (hr : ownB id wz ow = true) : Calls Tryz.prog 80 #[.agg #[.int .i64 id, .bool wz, .bool true], .int .i64 9, .agg #[.int .i64 ow, .int .i64 0, .int .i64 0, .int .i64 0, .int .i64 0, .int .i64 0, .string ⟨#[]⟩, .slice none 0 0, .slice none 0 0, .slice none 0 0], .agg #[.int .i64 y.id, .int .i64 y.parent, .int .i64 y.owner, .int .i64 y.place, .int .i64 y.flags, .int .i64 y.quota, .string y.name, .slice B1 m1 e1, .slice B2 m2 e2, .slice none 0 0]] w fun e w' => e = .returned (.bool true) ∧ Below w.heap.size w w' := by
  obtain ⟨w0, hw0⟩ : ∃ w0, w0 = ((w.alloc (.cells #[.int .i64 id, .bool wz, .bool true] 71)).alloc (.cells #[.int .i64 ow, .int .i64 0, .int .i64 0, .int .i64 0, .int .i64 0, .int .i64 0, .string ⟨#[]⟩, .slice none 0 0, .slice none 0 0, .slice none 0 0] 29)).alloc (.cells #[.int .i64 y.id, .int .i64 y.parent, .int .i64 y.owner, .int .i64 y.place, .int .i64 y.flags, .int .i64 y.quota, .string y.name, .slice B1 m1 e1, .slice B2 m2 e2, .slice none 0 0] 29) := ⟨_, rfl⟩
  have hb0 : Below w.heap.size w w0 := by rw [hw0]; exact (((Below.refl w.heap.size w).alloc (Nat.le_refl _) _).alloc (by simp) _).alloc (by simp; omega) _
  have g0 : w0.heap[w.heap.size]? = some (.cells #[.int .i64 id, .bool wz, .bool true] 71 (0, 0)) := by
    rw [hw0]
    exact (Below.heap_alloc _ _ _ (by simp; omega)).trans ((Below.heap_alloc _ _ _ (by simp)).trans (heap_alloc_new w _))
  have g1 : w0.heap[w.heap.size + 1]? = some (.cells #[.int .i64 ow, .int .i64 0, .int .i64 0, .int .i64 0, .int .i64 0, .int .i64 0, .string ⟨#[]⟩, .slice none 0 0, .slice none 0 0, .slice none 0 0] 29 (0, 0)) := by
    rw [hw0]
    exact (Below.heap_alloc _ _ _ (by simp)).trans (heap_alloc2_new w _ _)
  have g2 : w0.heap[w.heap.size + 2]? = some (.cells #[.int .i64 y.id, .int .i64 y.parent, .int .i64 y.owner, .int .i64 y.place, .int .i64 y.flags, .int .i64 y.quota, .string y.name, .slice B1 m1 e1, .slice B2 m2 e2, .slice none 0 0] 29 (0, 0)) := by
    rw [hw0]
    have := heap_alloc2_new (w.alloc (.cells #[.int .i64 id, .bool wz, .bool true] 71)) (.cells #[.int .i64 ow, .int .i64 0, .int .i64 0, .int .i64 0, .int .i64 0, .int .i64 0, .string ⟨#[]⟩, .slice none 0 0, .slice none 0 0, .slice none 0 0] 29) (.cells #[.int .i64 y.id, .int .i64 y.parent, .int .i64 y.owner, .int .i64 y.place, .int .i64 y.flags, .int .i64 y.quota, .string y.name, .slice B1 m1 e1, .slice B2 m2 e2, .slice none 0 0] 29)
    simpa using this
  have CO := Lib.hid (fun W => owns_c (id := id) (wz := wz) (pg := true) ow W)
  rw [hr] at CO
  have HB0 := Lib.hid hb0
  have HW0 := Lib.hid hw0
  have p0 := cell_of_row w0 _ 0 _ _ _ g0
  have p1 := cell_of_row w0 _ 1 _ _ _ g0
  have p2 := cell_of_row w0 _ 2 _ _ _ g0
  have q0 := cell_of_row w0 _ 0 _ _ _ g1
  have t4 := cell_of_row w0 _ 4 _ _ _ g2
  have hfl2 : (Go.bits .and .i64 y.flags 32 == 0) = false := by simpa using hfl
  clear g0 g1 g2 hb0 hw0 hr
  go_enter Tryz.func80, Tryz.ntmps80
  go_upto_region 1 with fail
  rw [← HW0.out]
  go_wp2_with fail
  refine (CO.out _).mono ?_
  rintro e w1 ⟨rfl, hb⟩
  have HB1 := Lib.hid (HB0.out.trans (hb.mono HB0.out.size))
  clear hb
  go_wp2_with fail
  go_ret
  exact ⟨rfl, HB1.out⟩

theorem wrap_i64 {n : Int} (h : I64 n) : IntKind.i64.wrap n = n := by
  obtain ⟨h1, h2⟩ := h
  exact IntWalk.i64_in n ⟨h1, h2⟩

set_option maxRecDepth 100000 in
set_option maxHeartbeats 4000000 in
theorem wcreate_yes {xp x2 : OB} (h : LS B w0 w a m l mx K) (hW : WK gW a ∈ K) (h1 : getO l 1 = some xp) (h2 : getO l 2 = some x2) (hfl : (Go.bits .and .i64 xp.flags 32 != 0) = true) (hq0 : 0 < x2.quota) (hq9 : x2.quota ≤ 1000) (hfew : l.length < 512) (hmm : mx + 1 < 1073741824) (hsl : xp.slots.length ≤ 1000) :
    Calls Tryz.prog 41 #[.pointer (some ⟨gW, 0, none⟩), .agg #[.int .i64 2, .bool false, .bool true], .int .i64 1, .int .i64 (-1)] w fun e w' => e = .returned (.tuple #[.int .i64 (mx + 1), .int .i64 0]) ∧ LS B w0 w' a m (repO (l ++ [newO mx 1 2 (xp.slots.map fun s => freshO s 2)]) 2 { x2 with quota := x2.quota - 1 }) (mx + 1) K := by
  obtain ⟨w3, hw3⟩ : ∃ w3, w3 = w.alloc (.cells #[.int .i64 2, .bool false, .bool true] 71) := ⟨_, rfl⟩
  have hb3 : Below w.heap.size w w3 := by rw [hw3]; exact (Below.refl _ _).alloc (Nat.le_refl _) _
  have hz3 : w3.heap.size = w.heap.size + 1 := by rw [hw3]; simp
  have g4 : w3.heap[w.heap.size]? = some (.cells #[.int .i64 2, .bool false, .bool true] 71 (0, 0)) := by
    rw [hw3]
    exact heap_alloc_new w _
  have hi1 : I64 1 := ⟨by omega, by omega⟩
  have hi2 : I64 2 := ⟨by omega, by omega⟩
  have CH1 := Lib.hid (has_L (h.below hb3) hi1 h1)
  have CH2 := Lib.hid (has_L (h.below hb3) hi2 h2)
  have HK := Lib.hid (fun W (hb : Below w3.heap.size w3 W) => ((h.below hb3).below hb).wk hW)
  obtain ⟨T, ht, rfl, h0, hK⟩ := h
  obtain ⟨y1, hy1, rfl⟩ := findT_of_getO h1
  obtain ⟨y2, hy2, rfl⟩ := findT_of_getO h2
  have hm1 := (findT_some hy1).1
  have hm2 := (findT_some hy2).1
  have ht3 := ht.keep hb3
  have CR1 := Lib.hid (show Calls Tryz.prog 54 #[.pointer (some ⟨a, 0, none⟩), .int .i64 1] w3 fun e w' => e = .returned (.pointer (some ⟨y1.g, 0, none⟩)) ∧ w3 = w' from by
    have := ref_c ht3.tab hi1
    rw [ptrT_some hy1] at this
    exact this)
  have CR2 := Lib.hid (show Calls Tryz.prog 54 #[.pointer (some ⟨a, 0, none⟩), .int .i64 2] w3 fun e w' => e = .returned (.pointer (some ⟨y2.g, 0, none⟩)) ∧ w3 = w' from by
    have := ref_c ht3.tab hi2
    rw [ptrT_some hy2] at this
    exact this)
  obtain ⟨Ad, cd, hdv⟩ : ∃ A C, y1.dv = .slice A y1.o.defs.length C := by obtain ⟨A, C, e, _⟩ := own_formO (ht.tab.objs y1 hm1).defs; exact ⟨A, C, e⟩
  obtain ⟨As, cs, hsv⟩ : ∃ A C, y1.sv = .slice A y1.o.slots.length C := by obtain ⟨A, C, e, _⟩ := own_formO (ht.tab.objs y1 hm1).slots; exact ⟨A, C, e⟩
  have KC := Lib.hid (show ∀ W, Below w3.heap.size w3 W → ∀ j, W.cell? ⟨y1.g, j, none⟩ = (#[.int .i64 y1.o.id, .int .i64 y1.o.parent, .int .i64 y1.o.owner, .int .i64 y1.o.place, .int .i64 y1.o.flags, .int .i64 y1.o.quota, .string y1.o.name, .slice Ad y1.o.defs.length cd, .slice As y1.o.slots.length cs, .slice none 0 0] : Array Value)[j]? from fun W hW j => by
    have e := cellX ht3.tab hW hm1 j
    unfold OM.cells at e
    rw [hdv, hsv] at e
    exact e)
  have CT := Lib.hid (fun W => two9_c (id := 2) (wz := false) (B1 := Ad) (m1 := y1.o.defs.length) (e1 := cd) (B2 := As) (m2 := y1.o.slots.length) (e2 := cs) 2 y1.o W hfl (by decide))
  have H3 := Lib.hid ht3
  have H := Lib.hid ht
  have H0 := Lib.hid h0
  have HK0 := Lib.hid hK
  have HY1 := Lib.hid hy1
  have HY2 := Lib.hid hy2
  have HM2 := Lib.hid hm2
  have HB3 := Lib.hid hb3
  have HW3 := Lib.hid hw3
  have p0 := cell_of_row w3 _ 0 _ _ _ g4
  have p1 := cell_of_row w3 _ 1 _ _ _ g4
  have p2 := cell_of_row w3 _ 2 _ _ _ g4
  have k3 := HK.out w3 (Below.refl _ _)
  have q0 := KC.out w3 (Below.refl _ _) 0
  have q1 := KC.out w3 (Below.refl _ _) 1
  have q2 := KC.out w3 (Below.refl _ _) 2
  have q3 := KC.out w3 (Below.refl _ _) 3
  have q4 := KC.out w3 (Below.refl _ _) 4
  have q5 := KC.out w3 (Below.refl _ _) 5
  have q6 := KC.out w3 (Below.refl _ _) 6
  have q7 := KC.out w3 (Below.refl _ _) 7
  have q8 := KC.out w3 (Below.refl _ _) 8
  have q9 := KC.out w3 (Below.refl _ _) 9
  have HG4 := Lib.hid g4
  have HZ3 := Lib.hid hz3
  clear hb3 hz3 g4 hw3 ht ht3 h0 hK hy1 hy2 hm1 hm2 hdv hsv h1 h2 hi1 hfl hW
  go_enter Tryz.func41, Tryz.ntmps41
  go_upto_region 1 with fail
  rw [← HW3.out]
  go_wp2_with fail
  refine CH1.out.mono ?_
  rintro e w4 ⟨rfl, rfl⟩
  go_wp2_with fail
  refine CH2.out.mono ?_
  rintro e w4 ⟨rfl, rfl⟩
  go_wp2_with fail
  refine CR2.out.mono ?_
  rintro e w4 ⟨rfl, rfl⟩
  go_wp2_with fail
  refine CR1.out.mono ?_
  rintro e w4 ⟨rfl, rfl⟩
  go_upto_region 9 with fail
  go_still_tail 6, (by kernel_rfl)
  change wpList _ _ _ _ _ w3.drew
  go_wp2_with fail
  refine (CT.out _).mono ?_
  rintro e w5 ⟨rfl, hb5⟩
  have HB5 := Lib.hid (show Below w3.heap.size w3 w5 from ((Below.refl w3.heap.size w3).drew).trans hb5)
  have k5 := HK.out w5 HB5.out
  have g45 := (HB5.out.block w.heap.size (by have := HZ3.out; omega)).trans HG4.out
  clear hb5 k3 p0 p1 p2 q0 q1 q2 q3 q4 q5 q6 q7 q8 q9
  have p1 := cell_of_row w5 _ 1 _ _ _ g45
  have c5 := cellX H3.out.tab HB5.out HM2.out 5
  change w5.cell? ⟨y2.g, 5, none⟩ = some (.int .i64 y2.o.quota) at c5
  clear g45
  have ht5 := H3.out.keep HB5.out
  have hne0 : (y2.o.quota == 0) = false := by simp; omega
  have CC := Lib.hid (create_so (ow := 2) (p := 1) (by decide) ht5 ⟨by omega, by omega⟩ HY1.out (by simpa [obT] using hfew) hmm hsl)
  have H5 := Lib.hid ht5
  clear ht5 hfew hsl
  go_wp2_with fail
  refine CC.out.mono ?_
  rintro e w6 ⟨rfl, sv, hs6⟩
  have hm6 : y2 ∈ T ++ [newS mx 1 2 w5.heap.size (y1.o.slots.map fun s => freshO s 2) sv] := List.mem_append_left _ HM2.out
  have hy6 : findT (T ++ [newS mx 1 2 w5.heap.size (y1.o.slots.map fun s => freshO s 2) sv]) 2 = some y2 := by
    have := HY2.out
    unfold findT at this ⊢
    rw [List.find?_append, this]
    rfl
  have c5 := (hs6.ts.tab.objs y2 hm6).cell 5
  change w6.cell? ⟨y2.g, 5, none⟩ = some (.int .i64 y2.o.quota) at c5
  have f5 : w6.frozen? ⟨y2.g, 5, none⟩ = false := frozen_of_row w6 y2.g 5 _ _ (hs6.ts.tab.objs y2 hm6).blk
  have hgt : 0 < y2.o.quota := hq0
  have hwr : IntKind.i64.wrap (y2.o.quota - 1) = y2.o.quota - 1 := wrap_i64 ⟨by omega, by omega⟩
  have HQ := Lib.hid (quota_S hs6.ts hy6 (y2.o.quota - 1))
  have HS6 := Lib.hid hs6
  have HO := Lib.hid (show obT (repT (T ++ [newS mx 1 2 w5.heap.size (y1.o.slots.map fun s => freshO s 2) sv]) 2 ⟨{ y2.o with quota := y2.o.quota - 1 }, y2.g, y2.dv, y2.sv⟩) = repO (obT T ++ [newO mx 1 2 (y1.o.slots.map fun s => freshO s 2)]) 2 { y2.o with quota := y2.o.quota - 1 } by
    rw [obT_rep]
    simp [obT, newS])
  clear hs6 hm6 hy6 p1 k5 hne0
  go_wp2_with fail
  go_ret2
  exact ⟨rfl, ls_step H.out H0.out HK0.out ((StS.of_below H.out HB3.out).trans ((StS.of_below H3.out HB5.out).trans (HS6.out.trans HQ.out))) HO.out⟩

set_option maxRecDepth 100000 in
set_option maxHeartbeats 4000000 in
theorem wcreate_no {xp x2 : OB} (h : LS B w0 w a m l mx K) (hW : WK gW a ∈ K) (h1 : getO l 1 = some xp) (h2 : getO l 2 = some x2) (hfl : (Go.bits .and .i64 xp.flags 32 != 0) = true) (hq0 : x2.quota = 0) :
    Calls Tryz.prog 41 #[.pointer (some ⟨gW, 0, none⟩), .agg #[.int .i64 2, .bool false, .bool true], .int .i64 1, .int .i64 (-1)] w fun e w' => e = .returned (.tuple #[.int .i64 0, .int .i64 14]) ∧ Below w.heap.size w w' := by
  obtain ⟨w3, hw3⟩ : ∃ w3, w3 = w.alloc (.cells #[.int .i64 2, .bool false, .bool true] 71) := ⟨_, rfl⟩
  have hb3 : Below w.heap.size w w3 := by rw [hw3]; exact (Below.refl _ _).alloc (Nat.le_refl _) _
  have hz3 : w3.heap.size = w.heap.size + 1 := by rw [hw3]; simp
  have g4 : w3.heap[w.heap.size]? = some (.cells #[.int .i64 2, .bool false, .bool true] 71 (0, 0)) := by
    rw [hw3]
    exact heap_alloc_new w _
  have hi1 : I64 1 := ⟨by omega, by omega⟩
  have hi2 : I64 2 := ⟨by omega, by omega⟩
  have CH1 := Lib.hid (has_L (h.below hb3) hi1 h1)
  have CH2 := Lib.hid (has_L (h.below hb3) hi2 h2)
  have HK := Lib.hid (fun W (hb : Below w3.heap.size w3 W) => ((h.below hb3).below hb).wk hW)
  obtain ⟨T, ht, rfl, h0, hK⟩ := h
  obtain ⟨y1, hy1, rfl⟩ := findT_of_getO h1
  obtain ⟨y2, hy2, rfl⟩ := findT_of_getO h2
  have hm1 := (findT_some hy1).1
  have hm2 := (findT_some hy2).1
  have ht3 := ht.keep hb3
  have CR1 := Lib.hid (show Calls Tryz.prog 54 #[.pointer (some ⟨a, 0, none⟩), .int .i64 1] w3 fun e w' => e = .returned (.pointer (some ⟨y1.g, 0, none⟩)) ∧ w3 = w' from by
    have := ref_c ht3.tab hi1
    rw [ptrT_some hy1] at this
    exact this)
  have CR2 := Lib.hid (show Calls Tryz.prog 54 #[.pointer (some ⟨a, 0, none⟩), .int .i64 2] w3 fun e w' => e = .returned (.pointer (some ⟨y2.g, 0, none⟩)) ∧ w3 = w' from by
    have := ref_c ht3.tab hi2
    rw [ptrT_some hy2] at this
    exact this)
  obtain ⟨Ad, cd, hdv⟩ : ∃ A C, y1.dv = .slice A y1.o.defs.length C := by obtain ⟨A, C, e, _⟩ := own_formO (ht.tab.objs y1 hm1).defs; exact ⟨A, C, e⟩
  obtain ⟨As, cs, hsv⟩ : ∃ A C, y1.sv = .slice A y1.o.slots.length C := by obtain ⟨A, C, e, _⟩ := own_formO (ht.tab.objs y1 hm1).slots; exact ⟨A, C, e⟩
  have KC := Lib.hid (show ∀ W, Below w3.heap.size w3 W → ∀ j, W.cell? ⟨y1.g, j, none⟩ = (#[.int .i64 y1.o.id, .int .i64 y1.o.parent, .int .i64 y1.o.owner, .int .i64 y1.o.place, .int .i64 y1.o.flags, .int .i64 y1.o.quota, .string y1.o.name, .slice Ad y1.o.defs.length cd, .slice As y1.o.slots.length cs, .slice none 0 0] : Array Value)[j]? from fun W hW j => by
    have e := cellX ht3.tab hW hm1 j
    unfold OM.cells at e
    rw [hdv, hsv] at e
    exact e)
  have CT := Lib.hid (fun W => two9_c (id := 2) (wz := false) (B1 := Ad) (m1 := y1.o.defs.length) (e1 := cd) (B2 := As) (m2 := y1.o.slots.length) (e2 := cs) 2 y1.o W hfl (by decide))
  have H3 := Lib.hid ht3
  have H := Lib.hid ht
  have H0 := Lib.hid h0
  have HK0 := Lib.hid hK
  have HY1 := Lib.hid hy1
  have HY2 := Lib.hid hy2
  have HM2 := Lib.hid hm2
  have HB3 := Lib.hid hb3
  have HW3 := Lib.hid hw3
  have p0 := cell_of_row w3 _ 0 _ _ _ g4
  have p1 := cell_of_row w3 _ 1 _ _ _ g4
  have p2 := cell_of_row w3 _ 2 _ _ _ g4
  have k3 := HK.out w3 (Below.refl _ _)
  have q0 := KC.out w3 (Below.refl _ _) 0
  have q1 := KC.out w3 (Below.refl _ _) 1
  have q2 := KC.out w3 (Below.refl _ _) 2
  have q3 := KC.out w3 (Below.refl _ _) 3
  have q4 := KC.out w3 (Below.refl _ _) 4
  have q5 := KC.out w3 (Below.refl _ _) 5
  have q6 := KC.out w3 (Below.refl _ _) 6
  have q7 := KC.out w3 (Below.refl _ _) 7
  have q8 := KC.out w3 (Below.refl _ _) 8
  have q9 := KC.out w3 (Below.refl _ _) 9
  have HG4 := Lib.hid g4
  have HZ3 := Lib.hid hz3
  clear hb3 hz3 g4 hw3 ht ht3 h0 hK hy1 hy2 hm1 hm2 hdv hsv h1 h2 hi1 hfl hW
  go_enter Tryz.func41, Tryz.ntmps41
  go_upto_region 1 with fail
  rw [← HW3.out]
  go_wp2_with fail
  refine CH1.out.mono ?_
  rintro e w4 ⟨rfl, rfl⟩
  go_wp2_with fail
  refine CH2.out.mono ?_
  rintro e w4 ⟨rfl, rfl⟩
  go_wp2_with fail
  refine CR2.out.mono ?_
  rintro e w4 ⟨rfl, rfl⟩
  go_wp2_with fail
  refine CR1.out.mono ?_
  rintro e w4 ⟨rfl, rfl⟩
  go_upto_region 9 with fail
  go_still_tail 6, (by kernel_rfl)
  change wpList _ _ _ _ _ w3.drew
  go_wp2_with fail
  refine (CT.out _).mono ?_
  rintro e w5 ⟨rfl, hb5⟩
  have HB5 := Lib.hid (show Below w3.heap.size w3 w5 from ((Below.refl w3.heap.size w3).drew).trans hb5)
  have k5 := HK.out w5 HB5.out
  have g45 := (HB5.out.block w.heap.size (by have := HZ3.out; omega)).trans HG4.out
  clear hb5 k3 p0 p1 p2 q0 q1 q2 q3 q4 q5 q6 q7 q8 q9
  have p1 := cell_of_row w5 _ 1 _ _ _ g45
  have c5 := cellX H3.out.tab HB5.out HM2.out 5
  change w5.cell? ⟨y2.g, 5, none⟩ = some (.int .i64 y2.o.quota) at c5
  clear g45
  have HF := Lib.hid (HB3.out.trans (HB5.out.mono HB3.out.size))
  rw [hq0] at c5
  clear hq0
  go_wp2_with fail
  go_ret2
  exact ⟨rfl, HF.out⟩

end
end Go.Proofs.YtnphgcbknfmapaaGreatDoor
namespace Go.Proofs.YtnphgcbknfmapaaGreatDoor
open Go.RowKit Go.Lib
set_option linter.unusedVariables false
set_option linter.unusedSimpArgs false
section
variable {B a m gW : Nat} {w0 w w' : World} {l l' : List OB} {mx mx' o : Int} {K : List (Nat × Obj)} {x : OB} {id : Int} {wz pg : Bool}

set_option maxRecDepth 100000 in
set_option maxHeartbeats 4000000 in
theorem wrec_q {x2 xo : OB} (h : LS B w0 w a m l mx K) (hW : WK gW a ∈ K) (ho : I64 o) (hne2 : o ≠ 2) (hx : getO l o = some xo) (h2 : getO l 2 = some x2) (hown : xo.owner = 2) (hq0 : 0 ≤ x2.quota) (hq9 : x2.quota ≤ 1000) (hk : kidsO l o = []) (hc : contO l o = []) :
    Calls Tryz.prog 40 #[.pointer (some ⟨gW, 0, none⟩), .agg #[.int .i64 2, .bool false, .bool true], .int .i64 o] w fun e w' => e = .returned (.int .i64 0) ∧ LS B w0 w' a m (delO (repO l 2 { x2 with quota := x2.quota + 1 }) o) mx K := by
  obtain ⟨w3, hw3⟩ : ∃ w3, w3 = w.alloc (.cells #[.int .i64 2, .bool false, .bool true] 71) := ⟨_, rfl⟩
  have hb3 : Below w.heap.size w w3 := by rw [hw3]; exact (Below.refl _ _).alloc (Nat.le_refl _) _
  have g4 : w3.heap[w.heap.size]? = some (.cells #[.int .i64 2, .bool false, .bool true] 71 (0, 0)) := by
    rw [hw3]
    exact heap_alloc_new w _
  have hi2 : I64 2 := ⟨by omega, by omega⟩
  have HK := Lib.hid (fun W (hb : Below w3.heap.size w3 W) => ((h.below hb3).below hb).wk hW)
  have HKC := Lib.hid (fun W (hl : LS B w0 W a m (repO l 2 { x2 with quota := x2.quota + 1 }) mx K) => hl.wk hW)
  obtain ⟨T, ht, rfl, h0, hK⟩ := h
  obtain ⟨x, hx', rfl⟩ := findT_of_getO hx
  obtain ⟨y2, hy2, rfl⟩ := findT_of_getO h2
  have hmx := (findT_some hx').1
  have hm2 := (findT_some hy2).1
  have ht3 := ht.keep hb3
  have CR := Lib.hid (show ∀ W, Below w3.heap.size w3 W → Calls Tryz.prog 54 #[.pointer (some ⟨a, 0, none⟩), .int .i64 o] W fun e w' => e = .returned (.pointer (some ⟨x.g, 0, none⟩)) ∧ W = w' from fun W hW => by
    have := ref_c (ht3.tab.below hW) ho
    rw [ptrT_some hx'] at this
    exact this)
  have CR2 := Lib.hid (show ∀ W, Below w3.heap.size w3 W → Calls Tryz.prog 54 #[.pointer (some ⟨a, 0, none⟩), .int .i64 2] W fun e w' => e = .returned (.pointer (some ⟨y2.g, 0, none⟩)) ∧ W = w' from fun W hW => by
    have := ref_c (ht3.tab.below hW) hi2
    rw [ptrT_some hy2] at this
    exact this)
  obtain ⟨Ad, cd, hdv⟩ : ∃ A C, x.dv = .slice A x.o.defs.length C := by obtain ⟨A, C, e, _⟩ := own_formO (ht.tab.objs x hmx).defs; exact ⟨A, C, e⟩
  obtain ⟨As, cs, hsv⟩ : ∃ A C, x.sv = .slice A x.o.slots.length C := by obtain ⟨A, C, e, _⟩ := own_formO (ht.tab.objs x hmx).slots; exact ⟨A, C, e⟩
  have KC := Lib.hid (show ∀ W, Below w3.heap.size w3 W → ∀ j, W.cell? ⟨x.g, j, none⟩ = (#[.int .i64 x.o.id, .int .i64 x.o.parent, .int .i64 x.o.owner, .int .i64 x.o.place, .int .i64 x.o.flags, .int .i64 x.o.quota, .string x.o.name, .slice Ad x.o.defs.length cd, .slice As x.o.slots.length cs, .slice none 0 0] : Array Value)[j]? from fun W hW j => by
    have e := cellX ht3.tab hW hmx j
    unfold OM.cells at e
    rw [hdv, hsv] at e
    exact e)
  have CO := Lib.hid (show ∀ W, Calls Tryz.prog 74 #[.agg #[.int .i64 2, .bool false, .bool true], .int .i64 10, .agg #[.int .i64 x.o.id, .int .i64 x.o.parent, .int .i64 x.o.owner, .int .i64 x.o.place, .int .i64 x.o.flags, .int .i64 x.o.quota, .string x.o.name, .slice Ad x.o.defs.length cd, .slice As x.o.slots.length cs, .slice none 0 0]] W (fun e w' => e = .returned (.bool true) ∧ Below W.heap.size W w') from fun W => (pobj10_c (id := 2) (wz := false) (pg := true) (A1 := Ad) (A2 := As) (n1 := x.o.defs.length) (n2 := x.o.slots.length) (c1 := cd) (c2 := cs) x.o W).mono (by
    rintro e w' ⟨rfl, hb⟩
    exact ⟨by rw [hown]; rfl, hb⟩))
  have HC2 := Lib.hid (show ∀ W, Below w3.heap.size w3 W → W.cell? ⟨x.g, 2, none⟩ = some (.int .i64 2) from fun W hb => by rw [KC.out W hb 2]; show some (Value.int .i64 x.o.owner) = _; rw [hown])
  have hgne : y2.g ≠ x.g := by
    intro e
    have hxy : y2 ≠ x := fun e2 => hne2 (by rw [← (findT_some hx').2, ← e2, (findT_some hy2).2])
    exact hxy (sep_apart ht.tab.sepB hm2 hmx (OM.mem_blocks.2 (.inl rfl)) (OM.mem_blocks.2 (.inl e)))
  have hkids : kidsO (repO (obT T) 2 { y2.o with quota := y2.o.quota + 1 }) o = [] := by rw [kids_rep (x' := { y2.o with quota := y2.o.quota + 1 }) ht.ok.sortS (getO_some' hy2) rfl rfl]; exact hk
  have hcont : contO (repO (obT T) 2 { y2.o with quota := y2.o.quota + 1 }) o = [] := by rw [cont_rep (x' := { y2.o with quota := y2.o.quota + 1 }) ht.ok.sortS (getO_some' hy2) rfl rfl]; exact hc
  have H3 := Lib.hid ht3
  have H := Lib.hid ht
  have H0 := Lib.hid h0
  have HK0 := Lib.hid hK
  have HX := Lib.hid hx'
  have HY2 := Lib.hid hy2
  have HM2 := Lib.hid hm2
  have HMX := Lib.hid hmx
  have HGN := Lib.hid hgne
  have HKD := Lib.hid hkids
  have HCT := Lib.hid hcont
  have HB3 := Lib.hid hb3
  have HW3 := Lib.hid hw3
  have p0 := cell_of_row w3 _ 0 _ _ _ g4
  have p1 := cell_of_row w3 _ 1 _ _ _ g4
  have p2 := cell_of_row w3 _ 2 _ _ _ g4
  have k3 := HK.out w3 (Below.refl _ _)
  have q0 := KC.out w3 (Below.refl _ _) 0
  have q1 := KC.out w3 (Below.refl _ _) 1
  have q2 := KC.out w3 (Below.refl _ _) 2
  have q3 := KC.out w3 (Below.refl _ _) 3
  have q4 := KC.out w3 (Below.refl _ _) 4
  have q5 := KC.out w3 (Below.refl _ _) 5
  have q6 := KC.out w3 (Below.refl _ _) 6
  have q7 := KC.out w3 (Below.refl _ _) 7
  have q8 := KC.out w3 (Below.refl _ _) 8
  have q9 := KC.out w3 (Below.refl _ _) 9
  clear hb3 g4 hw3 ht ht3 h0 hK hx' hy2 hm2 hmx hdv hsv hx h2 hi2 hown hk hc hgne hkids hcont
  go_enter Tryz.func40, Tryz.ntmps40
  go_upto_region 1 with fail
  rw [← HW3.out]
  go_wp2_with fail
  refine (CR.out _ (Below.refl _ _)).mono ?_
  rintro e w4 ⟨rfl, rfl⟩
  go_upto_region 4 with fail
  go_still_tail 4, (by kernel_rfl)
  change wpList _ _ _ _ _ w3.drew
  go_wp2_with fail
  refine (CO.out _).mono ?_
  rintro e w5 ⟨rfl, hb5⟩
  have HB5 := Lib.hid (show Below w3.heap.size w3 w5 from ((Below.refl w3.heap.size w3).drew).trans hb5)
  have k5 := HK.out w5 HB5.out
  clear hb5 p0 p1 p2 q0 q1 q2 q3 q4 q5 q6 q7 q8 q9 k3
  have q2 := HC2.out w5 HB5.out
  have ht5 := H3.out.keep HB5.out.drew
  have k5d := HK.out w5.drew HB5.out.drew
  have hne := neq_other w5.drew HGN.out (ht5.tab.objs y2 HM2.out).blk (ht5.tab.objs x HMX.out).blk
  have c5 := (ht5.tab.objs y2 HM2.out).cell 5
  change w5.drew.cell? ⟨y2.g, 5, none⟩ = some (.int .i64 y2.o.quota) at c5
  have f5 : w5.drew.frozen? ⟨y2.g, 5, none⟩ = false := frozen_of_row w5.drew y2.g 5 _ _ (ht5.tab.objs y2 HM2.out).blk
  have hwr : IntKind.i64.wrap (y2.o.quota + 1) = y2.o.quota + 1 := wrap_i64 ⟨by omega, by omega⟩
  have hmin : min y2.o.quota 1073741823 = y2.o.quota := by omega
  have hst := (StS.of_below H.out HB3.out).trans ((StS.of_below H3.out HB5.out.drew).trans (quota_S ht5 HY2.out (y2.o.quota + 1)))
  have hls := ls_step (l' := repO (obT T) 2 { y2.o with quota := y2.o.quota + 1 }) H.out H0.out HK0.out hst (obT_rep T 2 _)
  have k6 := HKC.out _ hls
  have hxr : getO (repO (obT T) 2 { y2.o with quota := y2.o.quota + 1 }) o = some x.o := by rw [getO_rep (show ({ y2.o with quota := y2.o.quota + 1 } : OB).id = 2 from (findT_some HY2.out).2), if_neg hne2]; exact getO_some' HX.out
  have CM := Lib.hid (recycle_L hls ho hxr HKD.out HCT.out)
  have HST := Lib.hid hst
  clear ht5 hst hls hxr
  go_upto_region 6 with fail
  go_still_tail 8, (by kernel_rfl)
  change wpList _ _ _ _ _ w5.drew
  go_wp2_with fail
  refine (CR2.out _ HB5.out.drew).mono ?_
  rintro e w6 ⟨rfl, rfl⟩
  go_wp2_with fail
  refine CM.out.mono ?_
  rintro e w6 ⟨rfl, hl6⟩
  have HL6 := Lib.hid hl6
  clear hl6
  go_wp2_with fail
  go_ret
  exact ⟨rfl, HL6.out⟩
theorem wtab_L (h : LS B w0 w a m l mx K) (hW : WK gW a ∈ K) (hln : ∀ x ∈ l, x.defs.length ≤ 1000 ∧ x.slots.length ≤ 1000) :
    Calls Tryz.prog 42 #[.pointer (some ⟨gW, 0, none⟩)] w fun e w' => ∃ a' m', e = .returned (.pointer (some ⟨a', 0, none⟩)) ∧ LS w.heap.size w w' a' m' l mx [] := by
  have k0 := h.wk hW
  have CC := Lib.hid (show Calls Tryz.prog 82 #[.pointer (some ⟨a, 0, none⟩)] w fun e w' => ∃ a' m', e = .returned (.pointer (some ⟨a', 0, none⟩)) ∧ LS w.heap.size w w' a' m' l mx [] from by
    obtain ⟨T, ht, rfl, h0, hK⟩ := h
    refine (tclone_c ht fun x hx => hln x.o (List.mem_map_of_mem hx)).mono ?_
    rintro e w' ⟨a', m', T', rfl, ht', ho, hb⟩
    exact ⟨a', m', rfl, T', ht', ho, hb, fun p hp => nomatch hp⟩)
  clear h hln
  go_enter Tryz.func42, Tryz.ntmps42
  go_wp2_with fail
  refine CC.out.mono ?_
  rintro e w1 ⟨a', m', rfl, hl⟩
  have HL := Lib.hid hl
  clear hl
  go_wp2_with fail
  go_ret
  exact ⟨_, _, rfl, HL.out⟩
end
end Go.Proofs.YtnphgcbknfmapaaGreatDoor
namespace Go.Proofs.YtnphgcbknfmapaaGreatDoor
open Go.RowKit Go.Lib
set_option linter.unusedVariables false
set_option linter.unusedSimpArgs false

/-- The row, and the block in which it lies. -/
def MnR (v : Value) (ms : List Int) (Km : List (Nat × Obj)) : Prop :=
  (∃ A, v = .slice A 0 0 ∧ ms = [] ∧ Km = []) ∨
  ∃ g off cap cur, v = .slice (some ⟨g, off, none⟩) ms.length cap ∧ ms.length ≤ cap ∧ off + cap ≤ cur.size ∧ (∀ j x, ms[j]? = some x → cur[off + j]? = some (.int .i64 x)) ∧ Km = [(g, .cells cur 3 (0, 0))]
theorem mn_len {v : Value} {ms : List Int} {Km : List (Nat × Obj)} (h : MnR v ms Km) : ∃ A c, v = .slice A ms.length c := by
  rcases h with ⟨A, rfl, rfl, _⟩ | ⟨g, off, cap, cur, rfl, _⟩
  · exact ⟨A, 0, rfl⟩
  · exact ⟨_, _, rfl⟩
section
variable {B a m gW : Nat} {w0 w w' : World} {l l' : List OB} {mx mx' o : Int} {K : List (Nat × Obj)} {x : OB}
/-- Something of the law's own has turned. -/
theorem LS.turn {g : Nat} {ob ob' : Obj} (h : LS B w0 w a m l mx ((g, ob) :: K)) (hB : B ≤ g) (hnK : ∀ p ∈ K, p.1 ≠ g) (hc : Chg (fun k => k = g) w w') (hg : w'.heap[g]? = some ob') : LS B w0 w' a m l mx ((g, ob') :: K) := by
  obtain ⟨T, ht, hl, h0, hK⟩ := h
  obtain ⟨h1, h2⟩ := hK _ (List.mem_cons_self ..)
  have hBw : B ≤ w.heap.size := ht.baseB
  refine ⟨T, ⟨ht.tab.chg hc (fun b hb e => h2 (by rw [← e]; exact hb)), ht.ok, ht.flat, ht.bare⟩, hl, h0.trans (hc.below hBw fun i hi => by omega), fun p hp => ?_⟩
  rcases List.mem_cons.1 hp with rfl | hp
  · exact ⟨hg, h2⟩
  · obtain ⟨h3, h4⟩ := hK p (List.mem_cons_of_mem _ hp)
    exact ⟨(hc.block p.1 (Array.getElem?_eq_some_iff.1 h3).1 (hnK p hp)).trans h3, h4⟩
theorem LS.baseL (h : LS B w0 w a m l mx K) : B ≤ w.heap.size := by
  obtain ⟨T, ht, _⟩ := h
  exact ht.baseB
theorem mn_own {w : World} {b : Nat} {v : Value} {ms : List Int} (hne : ms ≠ []) (h : w.ownsRow b 3 1 v ms.length (ms.map (Value.int .i64))) : ∃ g cur, b ≤ g ∧ w.heap[g]? = some (.cells cur 3 (0, 0)) ∧ MnR v ms [(g, .cells cur 3 (0, 0))] := by
  rcases h.2 with ⟨_, h0⟩ | ⟨g, cap, cur, rfl, hb, hg, hle, _, hsz, ht⟩
  · exact absurd (List.eq_nil_of_length_eq_zero h0) hne
  · refine ⟨g, cur, hb, hg, .inr ⟨g, 0, cap, cur, rfl, hle, by omega, fun j x hj => ?_, rfl⟩⟩
    have hjl : j < ms.length := (List.getElem?_eq_some_iff.1 hj).1
    have e : (cur.toList.take (ms.length * 1))[j]? = (ms.map (Value.int .i64))[j]? := by rw [ht]
    rw [List.getElem?_take_of_lt (by omega), List.getElem?_map, hj] at e
    rw [Nat.zero_add]
    simpa using e
/-- One number more. -/
theorem wpList_append_mine {ops : Array Oper} {rest : List Oper} {op : Oper} {A : Act} {Q : Exit → Act → World → Prop} (hg : op.guard = none) (s x : Operand)
    (hop : op.op = Op.call { callee := Callee.builtin Builtin.append, args := #[s, x], argTypes := #[22, 22] }) {v : Value} {ms : List Int} {Km : List (Nat × Obj)} (hs : A.eval s = v) (hm : MnR v ms Km)
    (hl : LS B w0 w a m l mx (Km ++ K)) (hmB : ∀ p ∈ Km, B ≤ p.1) (hnK : ∀ p ∈ K, ∀ cur, p.2 ≠ .cells cur 3 (0, 0)) (hlen : ms.length ≤ 1000) (ad : Addr) (c : Nat) (hx : A.eval x = .slice (some ad) 1 c) (z : Int) (hz : w.cell? (ad.add 0) = some (.int .i64 z))
    (hK : ∀ v' w' Km', MnR v' (ms ++ [z]) Km' → (∀ p ∈ Km', B ≤ p.1) → LS B w0 w' a m l mx (Km' ++ K) → wpList Tryz.prog ops Q rest (A.put op.dst v') w') : wpList Tryz.prog ops Q (op :: rest) A w := by
  obtain ⟨i0, hi0, hz0, hz1, hz2⟩ := info_parts oint_info
  have hB := hl.baseL
  have hnew : ∀ j u, ([.int .i64 z] : List Value)[j]? = some u → w.cell? (ad.add j) = some u := by
    intro j u hj
    have hj0 : j = 0 := by
      have := (List.getElem?_eq_some_iff.1 hj).1
      simp at this
      exact this
    subst hj0
    simp at hj
    rw [← hj]
    exact hz
  have h1c : ∀ u ∈ ([.int .i64 z] : List Value), u.oneCell' = true := by
    intro u hu
    simp at hu
    subst hu
    rfl
  have hgrow : ∀ v' w', w'.ownsRow w.heap.size 3 1 v' (ms.length + 1) (ms.map (Value.int .i64) ++ [.int .i64 z]) → w.grownBy w' none → LS B w0 w a m l mx K → wpList Tryz.prog ops Q rest (A.put op.dst v') w' := by
    intro v' w' ho hgr hlK
    obtain ⟨g, cur, hbg, hblk, hmn⟩ := mn_own (ms := ms ++ [z]) (by simp) (by rw [List.length_append, List.map_append]; exact ho)
    refine hK v' w' _ hmn (fun p hp => ?_) (hlK.push ((Below.refl _ _).grown hgr (Nat.le_refl _) (fun j hj => by cases hj)) hbg hblk)
    rw [List.mem_singleton] at hp
    subst hp
    exact Nat.le_trans hB hbg
  rcases hm with ⟨A0, rfl, rfl, rfl⟩ | ⟨g, off, cap, cur, rfl, hle, hsz, hcells, rfl⟩
  · refine wpList_append_grows w hg s x 22 hop 3 i0 (.int .i64 0) 1 8 Tryz.underlying22 hi0 hz0 hz1 hz2 rfl (by decide) A0 0 0 [] hs (fun _ => ⟨rfl, rfl⟩) rfl (fun _ _ j u hj => by simp at hj) ad 1 c [.int .i64 z] hx rfl hnew h1c (by omega) (by unfold maxLen; omega) (by omega) ?_
    intro v' w' ho hgr
    exact hgrow v' w' ho hgr hl
  · have hblk := hl.row (List.mem_cons_self ..)
    have hcg : ∀ j, w.cell? ⟨g, j, none⟩ = cur[j]? := fun j => cell_of_row w g j _ _ _ hblk
    refine wpList_append_arg w hg s x 22 hop 3 i0 (.int .i64 0) 1 8 Tryz.underlying22 hi0 hz0 hz1 hz2 rfl (by decide) g off ms.length cap (ms.map (Value.int .i64)) hs (by simp) ?_ ad 1 c [.int .i64 z] hx rfl hnew h1c ?_ (by unfold maxLen; omega) (by omega) ?_ ?_
    · intro j u hj
      rw [List.getElem?_map] at hj
      cases hm : ms[j]? with
      | none => rw [hm] at hj; cases hj
      | some y =>
        rw [hm] at hj
        rw [hcg, hcells j y hm]
        exact hj
    · intro hroom j hj
      have hj0 : j = 0 := by simpa using hj
      subst hj0
      rw [hcg]
      refine ⟨?_, frozen_of_row w g _ _ _ hblk⟩
      rw [Array.getElem?_eq_getElem (show off + ms.length * 1 + 0 < cur.size by omega)]
      rfl
    · intro hroom
      have e : w.setCells g (off + ms.length * 1) [.int .i64 z] = w.setCell ⟨g, off + ms.length * 1, none⟩ (.int .i64 z) := rfl
      rw [e]
      refine hK _ _ [(g, .cells (cur.setIfInBounds (off + ms.length * 1) (.int .i64 z)) 3 (0, 0))] (.inr ⟨g, off, cap, _, by simp, by simpa using hroom, by simpa using hsz, ?_, rfl⟩) (fun p hp => ?_) (hl.turn (hmB _ (List.mem_singleton.2 rfl)) ?_ ?_ ?_)
      · intro j y hj
        rw [Nat.mul_one, Array.getElem?_setIfInBounds]
        by_cases hj1 : j < ms.length
        · rw [if_neg (by omega)]
          rw [List.getElem?_append_left hj1] at hj
          exact hcells j y hj
        · have hjl := (List.getElem?_eq_some_iff.1 hj).1
          rw [List.length_append, List.length_singleton] at hjl
          obtain rfl : j = ms.length := by omega
          rw [if_pos rfl, if_pos (by omega)]
          rw [List.getElem?_append_right (Nat.le_refl _)] at hj
          simp at hj
          rw [hj]
      · rw [List.mem_singleton] at hp
        subst hp
        exact hmB (g, .cells cur 3 (0, 0)) (List.mem_singleton.2 rfl)
      · intro p hp e
        have h3 := hl.row (List.mem_cons_of_mem _ (show (p.1, p.2) ∈ K from hp))
        rw [e, hblk] at h3
        injection h3 with h3
        exact hnK p hp cur h3.symm
      · exact ⟨rfl, rfl, rfl, by simp [World.setCell], fun k hk hn => Below.heap_setCell _ _ _ _ hn⟩
      · exact heap_setCell_same w g _ _ _ _ hblk
    · intro hfull v' w' ho hgr
      exact hgrow v' w' ho hgr hl.pop
end

/-! The room. -/
def obM (i : Int) : OB := ⟨i, 1, 2, -1, 0, 0, ⟨#[]⟩, [], [freshO slR1 2]⟩
def ob2q (q : Int) : OB := { obR2 with quota := q }
def quL (q : Int) (ms : List Int) : List OB := [obR0, obR1, ob2q q, obR3] ++ ms.map obM
theorem quL_1 (q : Int) (ms : List Int) : getO (quL q ms) 1 = some obR1 := rfl
theorem quL_2 (q : Int) (ms : List Int) : getO (quL q ms) 2 = some (ob2q q) := rfl
theorem quL_len (q : Int) (ms : List Int) : (quL q ms).length = ms.length + 4 := by simp [quL]
theorem rep_ms (ms : List Int) (x' : OB) (h : ∀ o ∈ ms, 3 < o) : repO (ms.map obM) 2 x' = ms.map obM := by
  unfold repO
  rw [List.map_map]
  apply List.map_congr_left
  intro o ho
  have := h o ho
  simp only [Function.comp]
  rw [if_neg (by simp [obM]; omega)]
theorem quL_rep (q q' : Int) (ms : List Int) (h : ∀ o ∈ ms, 3 < o) : repO (quL q ms) 2 (ob2q q') = quL q' ms := by
  have e : repO (quL q ms) 2 (ob2q q') = [obR0, obR1, ob2q q', obR3] ++ repO (ms.map obM) 2 (ob2q q') := rfl
  rw [e, rep_ms ms _ h]
  rfl
theorem quL_made (q : Int) (ms : List Int) (mx : Int) (h : ∀ o ∈ ms, 3 < o) (hm : 3 ≤ mx) : repO (quL q ms ++ [newO mx 1 2 (obR1.slots.map fun s => freshO s 2)]) 2 (ob2q (q - 1)) = quL (q - 1) (ms ++ [mx + 1]) := by
  have e : quL q ms ++ [newO mx 1 2 (obR1.slots.map fun s => freshO s 2)] = quL q (ms ++ [mx + 1]) := by
    unfold quL
    rw [List.map_append, List.append_assoc]
    rfl
  rw [e]
  refine quL_rep _ _ _ fun o ho => ?_
  rcases List.mem_append.1 ho with ho | ho
  · exact h o ho
  · rw [List.mem_singleton] at ho
    omega
theorem quL_get (q x : Int) (ms : List Int) (h : 3 < x) : getO (quL q (x :: ms)) x = some (obM x) := by
  have e : getO (quL q (x :: ms)) x = ([obR0, obR1, ob2q q, obR3] ++ (obM x :: ms.map obM)).find? (fun y => y.id == x) := rfl
  have h0 : (obR0.id == x) = false := by simp [obR0]; omega
  have h1 : (obR1.id == x) = false := by simp [obR1]; omega
  have h2 : ((ob2q q).id == x) = false := by simp [ob2q, obR2]; omega
  have h3 : (obR3.id == x) = false := by simp [obR3]; omega
  have h4 : ((obM x).id == x) = true := by simp [obM]
  rw [e]
  simp only [List.cons_append, List.nil_append, List.find?_cons, h0, h1, h2, h3, h4]
theorem quL_kids (q x : Int) (ms : List Int) (h : 3 < x) : kidsO (quL q ms) x = [] := by
  have e : (quL q ms).filter (fun y => y.parent == x) = [] := by
    rw [List.filter_eq_nil_iff]
    intro y hy
    have : y.parent = -1 ∨ y.parent = 1 := by
      rcases List.mem_append.1 hy with hy | hy
      · simp only [List.mem_cons, List.not_mem_nil, or_false] at hy
        rcases hy with rfl | rfl | rfl | rfl
        · exact .inl rfl
        · exact .inl rfl
        · exact .inr rfl
        · exact .inl rfl
      · obtain ⟨i, _, rfl⟩ := List.mem_map.1 hy
        exact .inr rfl
    simp
    omega
  unfold kidsO
  rw [e]
  simp
theorem quL_cont (q x : Int) (ms : List Int) (h : 3 < x) : contO (quL q ms) x = [] := by
  have e : (quL q ms).filter (fun y => y.place == x) = [] := by
    rw [List.filter_eq_nil_iff]
    intro y hy
    have : y.place = -1 ∨ y.place = 1 := by
      rcases List.mem_append.1 hy with hy | hy
      · simp only [List.mem_cons, List.not_mem_nil, or_false] at hy
        rcases hy with rfl | rfl | rfl | rfl
        · exact .inl rfl
        · exact .inl rfl
        · exact .inr rfl
        · exact .inr rfl
      · obtain ⟨i, _, rfl⟩ := List.mem_map.1 hy
        exact .inl rfl
    simp
    omega
  unfold contO
  rw [e]
  simp
theorem quL_del (q x : Int) (ms : List Int) (h : 3 < x) (hs : ∀ o ∈ ms, x < o) : delO (quL q (x :: ms)) x = quL q ms := by
  have h0 : (obR0.id == x) = false := by simp [obR0]; omega
  have h1 : (obR1.id == x) = false := by simp [obR1]; omega
  have h2 : ((ob2q q).id == x) = false := by simp [ob2q, obR2]; omega
  have h3 : (obR3.id == x) = false := by simp [obR3]; omega
  have h4 : ((obM x).id == x) = true := by simp [obM]
  have hr : (ms.map obM).filter (fun y => !(y.id == x)) = ms.map obM := by
    rw [List.filter_eq_self]
    intro y hy
    obtain ⟨i, hi, rfl⟩ := List.mem_map.1 hy
    have := hs i hi
    simp [obM]
    omega
  have e : delO (quL q (x :: ms)) x = ([obR0, obR1, ob2q q, obR3] ++ (obM x :: ms.map obM)).filter (fun y => !(y.id == x)) := rfl
  rw [e]
  simp only [List.cons_append, List.nil_append, List.filter_cons, h0, h1, h2, h3, h4, hr]
  rfl
theorem quL_small (q : Int) (ms : List Int) : ∀ x ∈ quL q ms, x.defs.length ≤ 1000 ∧ x.slots.length ≤ 1000 := by
  intro y hy
  rcases List.mem_append.1 hy with hy | hy
  · simp only [List.mem_cons, List.not_mem_nil, or_false] at hy
    rcases hy with rfl | rfl | rfl | rfl
    · exact ⟨by decide, by decide⟩
    · exact ⟨by decide, by decide⟩
    · exact ⟨by show 0 ≤ 1000; omega, by show 1 ≤ 1000; omega⟩
    · exact ⟨by decide, by decide⟩
  · obtain ⟨i, _, rfl⟩ := List.mem_map.1 hy
    exact ⟨by show 0 ≤ 1000; omega, by show 1 ≤ 1000; omega⟩
theorem quL_last (q mx : Int) (ms : List Int) (h : ∀ o ∈ ms, o < mx) (hm : 3 < mx) : getO (quL q (ms ++ [mx])) mx = some (obM mx) := by
  unfold getO quL
  rw [List.map_append, ← List.append_assoc, List.find?_append]
  have hn : ([obR0, obR1, ob2q q, obR3] ++ ms.map obM).find? (fun y => y.id == mx) = none := by
    rw [List.find?_eq_none]
    intro y hy
    rcases List.mem_append.1 hy with hy | hy
    · simp only [List.mem_cons, List.not_mem_nil, or_false] at hy
      rcases hy with rfl | rfl | rfl | rfl
      · simp [obR0]; omega
      · simp [obR1]; omega
      · simp [ob2q, obR2]; omega
      · simp [obR3]; omega
    · obtain ⟨i, hi, rfl⟩ := List.mem_map.1 hy
      have := h i hi
      simp [obM]
      omega
  rw [hn]
  simp [obM]
end Go.Proofs.YtnphgcbknfmapaaGreatDoor
