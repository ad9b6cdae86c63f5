/- Contracts of the functions that the statement reaches, and the plain mathematics beneath: several texts joined. -/
import Derived.Test.YtbalpfpcbckghaaGreatDoorFlsAK
import Derived.Test.YtbalpfpcbckghaaGreatDoorFlsAJ
import Derived.Test.YtbalpfpcbckghaaGreatDoorFlsAF
import Derived.Test.YtbalpfpcbckghaaGreatDoorFlsAH
import Derived.Test.YtbalpfpcbckghaaGreatDoorFlsAI
namespace Go.Proofs.YtbalpfpcbckghaaGreatDoor
open Go.RowKit Go.Lib Go.Sort Go.Shelf
set_option linter.unusedVariables false
set_option linter.unusedSimpArgs false
section
variable {w0 w : World} {blk off cap : Nat} {d0 d : Array (VA w0 blk)}
theorem enters_fn : ∀ args w, (callFunc 162 args).run Tryz.prog w = .ok (.enter 162 args) w := enters_of Tryz.func162 (by kernel_rfl) rfl
theorem symM_c (R : RowK encA 4 w0 blk off d0) : ∀ (f a m b : Nat) (d : Array (VA w0 blk)) (w : World), d.size = d0.size → SWK encA 4 w0 blk off d w → a < m → m < b → b ≤ d.size → d.size < 4611686018427387904 → b - a ≤ f →
    Calls Tryz.prog 232 #[.slice (some ⟨blk, off, none⟩) d.size cap, .int .i64 a, .int .i64 m, .int .i64 b, fnV] w fun e w' => e = .returned (.tuple #[]) ∧ SWK encA 4 w0 blk off (symM (ltOf cfA) f a m b d) w'
  | 0, a, m, b, d, w, _, _, _, _, _, _, _ => by omega
  | f + 1, a, m, b, d, w, hs, S, ha, hm, hb, hsz, hf => by
    by_cases h1 : m - a = 1
    · have := merge1_g (cap := cap) (a := a) (m := m) (b := b) (cb := #[]) (cf := cfA) layV Tryz.func232 enters_fn cmpLays_A R hs S ha hm hb hsz h1
      rw [symM, if_pos h1]
      exact this
    by_cases h2 : b - m = 1
    · have := merge2_g (cap := cap) (a := a) (m := m) (b := b) (cb := #[]) (cf := cfA) layV Tryz.func232 enters_fn cmpLays_A R hs S ha hm hb hsz h1 h2
      rw [symM, if_neg h1, if_pos h2]
      exact this
    exact merge3_g (cap := cap) (a := a) (m := m) (b := b) (cb := #[]) (cf := cfA) layV Tryz.func232
      (enters_of Tryz.func243 (by kernel_rfl) rfl) (enters_of Tryz.func232 (by kernel_rfl) rfl) enters_fn cmpLays_A R hs S ha hm hb hsz h1 h2 hf
      (fun x y z dk wk e1 e2 e3 e4 e5 e6 => by
        have := symM_c R f x y z dk wk (e5.trans hs) e6 e2 e3 (by omega) (by omega) e1
        rw [e5] at this
        exact this)
      (fun x y z dk wk e2 e3 e4 e5 e6 => by
        have := rot_g (cap := cap) (a := x) (m := y) (b := z) (g := 162) (cb := #[]) layV Tryz.func243 Tryz.func248 R (e5.trans hs) e6 e2 e3 (by omega) (by omega)
        rw [e5] at this
        exact this)
set_option maxRecDepth 1000000 in
set_option maxHeartbeats 4000000 in
theorem stable_c (R : RowK encA 4 w0 blk off d0) (hs : d.size = d0.size) (S : SWK encA 4 w0 blk off d w) (hn : d.size < 40) :
    Calls Tryz.prog 210 #[.slice (some ⟨blk, off, none⟩) d.size cap, .int .i64 d.size, fnV] w fun e w' => e = .returned (.tuple #[]) ∧ SWK encA 4 w0 blk off (stabS (ltOf cfA) d d.size) w' := by
  have IC := Lib.hid (fun (x y : Nat) (dk : Array (VA w0 blk)) (wk : World) (h1 : x ≤ y) (h2 : y ≤ d.size) (h3 : dk.size = d.size) (h4 : SWK encA 4 w0 blk off dk wk) => (show Calls Tryz.prog 231 #[.slice (some ⟨blk, off, none⟩) d.size cap, .int .i64 x, .int .i64 y, fnV] wk fun e w' => e = .returned (.tuple #[]) ∧ SWK encA 4 w0 blk off (insertionSort (ltOf cfA) dk x y) w' from by
    have := ins_c (cap := cap) R (h3.trans hs) h4 h1 (by omega) (by omega)
    rw [h3] at this
    exact this))
  have MC := Lib.hid (fun (dk : Array (VA w0 blk)) (wk : World) (h2 : 20 < d.size) (h3 : dk.size = d.size) (h4 : SWK encA 4 w0 blk off dk wk) => (show Calls Tryz.prog 232 #[.slice (some ⟨blk, off, none⟩) d.size cap, .int .i64 0, .int .i64 20, .int .i64 d.size, fnV] wk fun e w' => e = .returned (.tuple #[]) ∧ SWK encA 4 w0 blk off (symM (ltOf cfA) d.size 0 20 d.size dk) w' from by
    have := symM_c (cap := cap) R d.size 0 20 d.size dk wk (h3.trans hs) h4 (by omega) h2 (by omega) (by omega) (by omega)
    rw [h3] at this
    exact this))
  have IZ := Lib.hid (fun (x y : Nat) (dk : Array (VA w0 blk)) (h1 : x ≤ y) (h2 : y ≤ dk.size) => (insertionSort_holds (swoA (w := w0) (blk := blk)) dk x y h1 h2).1.1)
  have S0 : Aside (SWK encA 4 w0 blk off d w) := S
  obtain ⟨fn, hfn⟩ : ∃ fn, fn = fnV := ⟨_, rfl⟩
  rw [← hfn] at IC MC ⊢
  obtain ⟨n, hnn⟩ : ∃ n, n = d.size := ⟨_, rfl⟩
  rw [← hnn] at IC MC hn ⊢
  have HN := Lib.hid hnn
  have HFN := Lib.hid hfn
  clear S hs hnn hfn
  go_enter Tryz.func210, Tryz.ntmps210
  go_wp2_with fail
  by_cases c1 : n < 20
  · have c1z : ¬ (20 : Int) ≤ (n : Int) := by omega
    have c2z : ¬ (20 : Int) < (n : Int) := by omega
    go_loopg [7, 8] 0 (fun kk va vb wr => va = .int .i64 0 ∧ vb = .int .i64 20 ∧ Aside (SWK encA 4 w0 blk off d wr))
    case atStart => exact ⟨rfl, rfl, S0⟩
    case round =>
      clear S0
      obtain ⟨rfl, rfl, S1⟩ := hrel
      have C := IC.out 0 n d wr (by omega) (by omega) HN.out.symm S1.out
      clear S1
      go_wp2_with fail
      refine C.mono ?_
      rintro e w2 ⟨rfl, S2⟩
      have S3 : Aside (SWK encA 4 w0 blk off (stabS (ltOf cfA) d n) w2) := by show SWK _ _ _ _ _ _ _; unfold stabS; rw [if_pos c1]; exact S2
      clear C S2
      go_wp2_with fail
      go_loopg [6] 0 (fun kk v wr => v = .int .i64 20 ∧ Aside (SWK encA 4 w0 blk off (stabS (ltOf cfA) d n) wr))
      case atStart => exact ⟨rfl, S3⟩
      case round =>
        clear S3
        obtain ⟨rfl, S3⟩ := hrel
        go_wp2_with fail
        go_end0
        exact ⟨rfl, S3.out⟩
  · have c1z : (20 : Int) ≤ (n : Int) := by omega
    have c3z : ¬ (40 : Int) ≤ (n : Int) := by omega
    have c4z : ¬ (40 : Int) < (n : Int) := by omega
    go_loopg [7, 8] 1 (fun kk va vb wr => (kk = 1 ∧ va = .int .i64 0 ∧ vb = .int .i64 20 ∧ Aside (SWK encA 4 w0 blk off d wr)) ∨ (va = .int .i64 20 ∧ vb = .int .i64 40 ∧ Aside (SWK encA 4 w0 blk off (insertionSort (ltOf cfA) d 0 20) wr)))
    case atStart => exact .inl ⟨rfl, rfl, rfl, S0⟩
    case round =>
      clear S0
      rcases hrel with ⟨hk, rfl, rfl, S1⟩ | ⟨rfl, rfl, S1⟩
      · obtain ⟨g, rfl⟩ : ∃ g, gk = g + 1 := ⟨gk - 1, by omega⟩
        have C := IC.out 0 20 d wr (by omega) (by omega) HN.out.symm S1.out
        clear S1
        go_wp2_with fail
        refine C.mono ?_
        rintro e w2 ⟨rfl, S2⟩
        have S3 : Aside (SWK encA 4 w0 blk off (insertionSort (ltOf cfA) d 0 20) w2) := S2
        clear C S2
        go_wp2_with fail
        go_roundg g
        case measure => omega
        case rel => exact .inr ⟨rfl, rfl, S3⟩
      · have hz1 := IZ.out 0 20 d (by omega) (by rw [← HN.out]; omega)
        have hz1n : (insertionSort (ltOf cfA) d 0 20).size = n := hz1.trans HN.out.symm
        have C := IC.out 20 n (insertionSort (ltOf cfA) d 0 20) wr (by omega) (by omega) hz1n S1.out
        have hz2 := IZ.out 20 n (insertionSort (ltOf cfA) d 0 20) (by omega) (by omega)
        have HZ2 := Lib.hid (show (insertionSort (ltOf cfA) (insertionSort (ltOf cfA) d 0 20) 20 n).size = n from hz2.trans hz1n)
        clear S1 hz1 hz1n hz2
        go_wp2_with fail
        refine C.mono ?_
        rintro e w2 ⟨rfl, S2⟩
        have S3 : Aside (SWK encA 4 w0 blk off (insertionSort (ltOf cfA) (insertionSort (ltOf cfA) d 0 20) 20 n) w2) := S2
        clear C S2
        go_wp2_with fail
        by_cases c5 : n = 20
        · have c5z : ¬ (20 : Int) < (n : Int) := by omega
          have S4 : Aside (SWK encA 4 w0 blk off (stabS (ltOf cfA) d n) w2) := by
            show SWK _ _ _ _ _ _ _
            unfold stabS
            rw [if_neg c1, if_pos c5]
            rw [c5] at S3
            exact S3.out
          clear S3 c5
          go_loopg [6] 0 (fun kk v wr => v = .int .i64 20 ∧ Aside (SWK encA 4 w0 blk off (stabS (ltOf cfA) d n) wr))
          case atStart => exact ⟨rfl, S4⟩
          case round =>
            clear S4
            obtain ⟨rfl, S3⟩ := hrel
            go_wp2_with fail
            go_end0
            exact ⟨rfl, S3.out⟩
        · have c5z : (20 : Int) < (n : Int) := by omega
          have HD := Lib.hid (show stabS (ltOf cfA) d n = symM (ltOf cfA) n 0 20 n (insertionSort (ltOf cfA) (insertionSort (ltOf cfA) d 0 20) 20 n) by unfold stabS; rw [if_neg c1, if_neg c5])
          clear c5
          go_loopg [6] 1 (fun kk v wr => (kk = 1 ∧ v = .int .i64 20 ∧ Aside (SWK encA 4 w0 blk off (insertionSort (ltOf cfA) (insertionSort (ltOf cfA) d 0 20) 20 n) wr)) ∨ (v = .int .i64 40 ∧ Aside (SWK encA 4 w0 blk off (stabS (ltOf cfA) d n) wr)))
          case atStart => exact .inl ⟨rfl, rfl, S3⟩
          case round =>
            clear S3
            rcases hrel with ⟨hk, rfl, S1⟩ | ⟨rfl, S1⟩
            · obtain ⟨g, rfl⟩ : ∃ g, gk = g + 1 := ⟨gk - 1, by omega⟩
              go_wp2_with fail
              go_loopg [7, 8] 0 (fun kk va vb wr => va = .int .i64 0 ∧ vb = .int .i64 40 ∧ Aside (SWK encA 4 w0 blk off (insertionSort (ltOf cfA) (insertionSort (ltOf cfA) d 0 20) 20 n) wr))
              case atStart => exact ⟨rfl, rfl, S1⟩
              case round =>
                clear S1
                obtain ⟨rfl, rfl, S1⟩ := hrel
                have C := MC.out (insertionSort (ltOf cfA) (insertionSort (ltOf cfA) d 0 20) 20 n) wr (by omega) HZ2.out S1.out
                clear S1
                go_wp2_with fail
                refine C.mono ?_
                rintro e w2 ⟨rfl, S2⟩
                have S3 : Aside (SWK encA 4 w0 blk off (stabS (ltOf cfA) d n) w2) := by show SWK _ _ _ _ _ _ _; rw [HD.out]; exact S2
                clear C S2
                go_wp2_with fail
                go_roundg g
                case measure => omega
                case rel => exact .inr ⟨rfl, S3⟩
            · go_wp2_with fail
              go_end0
              exact ⟨rfl, S1.out⟩
end
end Go.Proofs.YtbalpfpcbckghaaGreatDoor
namespace Go.Proofs.YtbalpfpcbckghaaGreatDoor
open Go.RowKit Go.Lib Go.Sort Go.Shelf
set_option linter.unusedVariables false
set_option linter.unusedSimpArgs false

/-- Each item, as a list of one. -/
def itms : VL → List VL
  | .nil => []
  | .cons k n s sub r => .cons k n s sub .nil :: itms r
def ofI : List VL → VL
  | [] => .nil
  | x :: r => x.app (ofI r)
theorem ofI_itms : ∀ l : VL, ofI (itms l) = l
  | .nil => rfl
  | .cons k n s sub r => by
    rw [itms, ofI, ofI_itms r]
    rfl
theorem itms_len : ∀ l : VL, (itms l).length = l.len
  | .nil => rfl
  | .cons k n s sub r => by rw [itms, List.length_cons, itms_len r]; rfl
theorem itms_app : ∀ a b : VL, itms (a.app b) = itms a ++ itms b
  | .nil, b => rfl
  | .cons k n s sub r, b => by
    show _ :: itms (r.app b) = _ :: (itms r ++ itms b)
    rw [itms_app r b]
theorem itms_vl : ∀ es : List VE, itms (ofI (es.map VE.vl)) = es.map VE.vl
  | [] => rfl
  | e :: r => by
    rw [List.map_cons, ofI, itms_app, itms_vl r]
    rfl
theorem len_vl (es : List VE) : (ofI (es.map VE.vl)).len = es.length := by rw [← itms_len, itms_vl, List.length_map]
/-- What is asked of an item that is sorted. -/
structure VE.Fine (e : VE) : Prop where
  k : 0 ≤ e.k ∧ e.k ≤ 100
  few : kfew e.sub
  len : e.sub.len ≤ 140737488351232
  fit : e.sub.fit
/-- The items, with where their own items lie. -/
theorem cells_es {w : World} {S : Nat → Prop} : ∀ (l : VL) (xs : List Value), CellsOf w S l xs → kfew l → l.fit → ∃ es : List VE, es.map VE.vl = itms l ∧ (∀ e ∈ es, e.Fine ∧ e.sub.len ≤ e.sc ∧ RpL w S e.sub e.sa) ∧
    ∀ i e, es[i]? = some e → ∀ c v, e.cells[c]? = some v → xs[i * 4 + c]? = some v
  | .nil, xs, _, _, _ => ⟨[], rfl, fun e he => by simp at he, fun i e he => by simp at he⟩
  | .cons k n s sub r, xs, ⟨sa, sc, ys, hx, hc, hr, ht⟩, hk, hf => by
    obtain ⟨es, h1, h2, h3⟩ := cells_es r ys ht hk.2.2 hf.2.2.2
    subst hx
    refine ⟨⟨k, n, s, sub, sa, sc⟩ :: es, by rw [List.map_cons, h1]; rfl, ?_, ?_⟩
    · intro e he
      rcases List.mem_cons.1 he with rfl | he
      · exact ⟨⟨hk.1, hk.2.1, hf.2.1, hf.2.2.1⟩, hc, hr⟩
      · exact h2 e he
    · intro i e he c v hv
      cases i with
      | zero =>
        simp only [List.getElem?_cons_zero, Option.some.injEq] at he
        subst he
        have hc4 : c < 4 := by
          have := (List.getElem?_eq_some_iff.1 hv).1
          exact this
        rw [Nat.zero_mul, Nat.zero_add]
        have : c = 0 ∨ c = 1 ∨ c = 2 ∨ c = 3 := by omega
        rcases this with rfl | rfl | rfl | rfl <;> exact hv
      | succ i =>
        rw [List.getElem?_cons_succ] at he
        have := h3 i e he c v hv
        rw [show (i + 1) * 4 + c = i * 4 + c + 1 + 1 + 1 + 1 from by omega]
        exact this
/-- .. and back: such cells are a row of values in memory. -/
theorem rep_es {w : World} {S : Nat → Prop} {g : Nat} (hg : S g) : ∀ (es : List VE) (o : Nat), (∀ e ∈ es, e.sub.len ≤ e.sc ∧ RpL w S e.sub e.sa) → (∀ i e, es[i]? = some e → ∀ c v, e.cells[c]? = some v → w.cell? ⟨g, o + (i * 4 + c), none⟩ = some v) →
    RpL w S (ofI (es.map VE.vl)) (some ⟨g, o, none⟩)
  | [], _, _, _ => trivial
  | e :: r, o, h1, h2 => by
    have ih := rep_es hg r (o + 4) (fun x hx => h1 x (List.mem_cons_of_mem _ hx)) (fun i x hx c v hv => by
      have := h2 (i + 1) x (by rw [List.getElem?_cons_succ]; exact hx) c v hv
      rw [show o + 4 + (i * 4 + c) = o + ((i + 1) * 4 + c) from by omega]
      exact this)
    obtain ⟨hc, hr⟩ := h1 e (List.mem_cons_self ..)
    have z := h2 0 e rfl
    exact ⟨g, o, e.sa, e.sc, rfl, hg, z 0 _ rfl, z 1 _ rfl, z 2 _ rfl, z 3 _ rfl, hc, hr, ih⟩
/-- A row of one's own holds its items, for the sort. -/
theorem holds_es {w : World} {g : Nat} {d : Array (VA w g)} {cur : Array Value} {t : TypeId} (hb : w.heap[g]? = some (.cells cur t (0, 0))) (hc : ∀ i e, (d.toList.map (·.1))[i]? = some e → ∀ c v, e.cells[c]? = some v → cur[i * 4 + c]? = some v) : HoldsK encA 4 w g 0 d := by
  intro j hj
  have hj4 : j < d.size * 4 := by rw [size_flatK] at hj; exact hj
  rw [get_flatK _ _ _ _ hj4]
  have hi : j / 4 < d.size := by omega
  refine ⟨?_, by simp [World.frozen?, hb]⟩
  have h1 : (d.toList.map (·.1))[j / 4]? = some (d[j / 4]!).1 := by
    rw [List.getElem?_map, Array.getElem?_toList, Array.getElem?_eq_getElem hi, getElem!_pos d (j / 4) hi]
    rfl
  have hl : (encA d[j / 4]!).length = 4 := rfl
  have h2 : ((d[j / 4]!).1).cells[j % 4]? = some (encA d[j / 4]!)[j % 4]! := by
    have : j % 4 < (encA d[j / 4]!).length := by rw [hl]; omega
    rw [getElem!_pos (encA d[j / 4]!) (j % 4) this]
    exact List.getElem?_eq_getElem this
  have h3 := hc _ _ h1 _ _ h2
  rw [show j / 4 * 4 + j % 4 = j from by omega] at h3
  rw [Nat.zero_add, cell_of_row w g j _ _ _ hb]
  exact h3
end Go.Proofs.YtbalpfpcbckghaaGreatDoor
namespace Go.Proofs.YtbalpfpcbckghaaGreatDoor
open Go.RowKit Go.Lib Go.Sort Go.Shelf
set_option linter.unusedVariables false
set_option linter.unusedSimpArgs false

theorem CInv.set4 {w wa wr : World} {V : Value} {l : VL} {xs : List Value} (h : CInv (w.heap.size + 1) wa wr V l xs) (hb : Below w.heap.size w wr) (hz : w.heap.size ≤ wr.heap.size) (a b c d : Value) :
    CInv w.heap.size w ((((wr.setCell ⟨w.heap.size, 0, none⟩ a).setCell ⟨w.heap.size, 1, none⟩ b).setCell ⟨w.heap.size, 2, none⟩ c).setCell ⟨w.heap.size, 3, none⟩ d) V l xs := by
  refine ⟨?_, h.cells.keep (fun k hk => heap_set4 _ _ _ _ _ _ _ (by have := hk.1; omega)) (fun k hk => ⟨by have := hk.1; omega, by rw [size_set4]; exact hk.2.1, hk.2.2⟩), below_set4 hb (Nat.le_refl _) _ _ _ _, by rw [size_set4]; exact hz⟩
  obtain ⟨h1, h2⟩ := h.own
  refine ⟨h1, ?_⟩
  rcases h2 with h2 | ⟨g, cap, cur, hv, hg, hh, r⟩
  · exact .inl h2
  · exact .inr ⟨g, cap, cur, hv, by omega, (heap_set4 _ _ _ _ _ _ _ (by omega)).trans hh, r⟩
set_option maxRecDepth 100000 in
set_option maxHeartbeats 4000000 in
theorem valL_o (l : VL) (sa : Option Addr) (sc : Nat) (w : World) (hcost : cost l ≤ 100000) (hsc : l.len ≤ sc) (hrep : RpL w (fun b => b < w.heap.size) l sa) :
    Calls Tryz.prog 13 #[.slice sa l.len sc] w (fun e w' => ∃ (V : Value) (xs : List Value), e = .returned (.agg #[.int .i64 4, .int .i64 0, .string ⟨#[]⟩, V]) ∧ CInv w.heap.size w w' V l xs) := by
  obtain ⟨i0, hi0, hz0, hz1, hz2⟩ := info_parts val_info
  obtain ⟨wa, hwa⟩ : ∃ wa, wa = w.alloc (.cells #[.int .i64 0, .int .i64 0, .string ⟨#[]⟩, .slice none 0 0] 24) := ⟨_, rfl⟩
  have hba : Below w.heap.size w wa := by rw [hwa]; exact (Below.refl _ _).alloc (Nat.le_refl _) _
  have hwz : wa.heap.size = w.heap.size + 1 := by rw [hwa]; simp
  have hR : StB wa w.heap.size (.int .i64 0) (.int .i64 0) (.string ⟨#[]⟩) (.slice none 0 0) := by rw [hwa]; exact StB.new w _ _ _ _
  have HR := Lib.hid hR
  have HB := Lib.hid hba
  have HWA := Lib.hid hwa
  have HWZ := Lib.hid hwz
  have HRP := Lib.hid (hrep.keep (w' := wa) (fun b hb => hba.block b hb) (fun b hb => hb))
  have C0 := CInv.nil wa
  have hln := len_cost l
  clear hba hR hwa hwz hrep
  go_enter Tryz.func13, Tryz.ntmps13
  go_wp2_with fail
  rw [← HWA.out]
  go_loopg [3, 8] l.len (fun kk ov v wr => ∃ (bv : Value) (i : Nat) (xs : List Value), bv = ov ∧ v = .int .i64 i ∧ i + kk = l.len ∧ Hid (CInv wa.heap.size wa wr bv (l.take i) xs))
  case atStart => exact ⟨.slice none 0 0, 0, [], rfl, rfl, by omega, by show CInv _ _ _ _ (l.take 0) _; rw [VL.take]; exact C0⟩
  case round =>
    obtain ⟨bv, i, xs, rfl, rfl, hik, hC⟩ := hrel
    have hbr := hC.out.below
    have hrz := hC.out.size
    have hwz := HWZ.out
    by_cases hi : i < l.len
    · obtain ⟨g, rfl⟩ : ∃ g, gk = g + 1 := ⟨gk - 1, by omega⟩
      obtain ⟨b, o, k', n', s', sub', sa', sc', hA, hd, hSb, c0, c1, c2, c3, hcl, hrs, hszd⟩ := rp_at (HRP.out.keep (w' := wr) (fun b hb => hbr.block b (by omega)) (fun b hb => hb)) hi
      have hts := Lib.hid (VL.take_succ i l k' n' s' sub' hd)
      have hcd := cost_drop i l
      rw [hd, cost] at hcd
      have hcr := cost_ge (l.drop (i + 1))
      have hmm := mOf_ge k' s'
      have htl : (l.take i).len ≤ 100000 := by
        have h2 : (l.take i).len + (l.drop i).len = l.len := by rw [← VL.len_app, VL.take_app_drop]
        omega
      obtain ⟨wx, hwx⟩ : ∃ wx, wx = wr.alloc (.cells #[.int .i64 k', .int .i64 n', .string s', .slice sa' sub'.len sc'] 24) := ⟨_, rfl⟩
      have hbx : Below wr.heap.size wr wx := by rw [hwx]; exact (Below.refl _ _).alloc (Nat.le_refl _) _
      have hxz : wx.heap.size = wr.heap.size + 1 := by rw [hwx]; simp
      have IHC := Lib.hid (clone_c (sub'.size + 1) k' n' s' sub' sa' sc' wx (by omega) (by omega) hcl (hrs.keep (fun b hb => hbx.block b (by omega)) (fun b hb => by omega)))
      have CX := Lib.hid (hC.out.move hbx)
      have HSA := Lib.hid hA
      have HWX := Lib.hid hwx
      subst hA
      clear hrs hd hcd hwx hbx hbr
      go_wp2_with fail
      rw [← HWX.out]
      refine IHC.out.mono ?_
      rintro e w3 ⟨sb, cb, rfl, hcb, hrb, hb3⟩
      have C3 := Lib.hid (CX.out.move hb3)
      have HB3 := Lib.hid hb3
      have HRB := Lib.hid hrb
      have h3z := hb3.size
      clear hb3 hrb c0 c1 c2 c3
      go_wp2_with (at_builtin; refine wpList_append_own_at _ rfl (.tmp 12) (.tmp 15) 22 rfl wa.heap.size 24 i0 _ 4 56 Tryz.underlying22 hi0 hz0 hz1 hz2 rfl (by decide) bv (l.take i).len xs rfl (own_below C3.out.own ((Below.refl _ _).alloc (Nat.le_refl _) _)) ⟨w3.heap.size, 0, none⟩ 1 1 [.int .i64 k', .int .i64 n', .string s', .slice sb sub'.len cb] rfl rfl ?c1 ?c2 ?c3 ?c4 ?c5 ?c6
                   case c1 => exact cell_four_new w3 _ rfl _ _ _ _ _
                   case c2 => intro u hu; simp at hu; rcases hu with rfl | rfl | rfl | rfl <;> rfl
                   case c3 => unfold maxLen; omega
                   case c4 => omega
                   case c5 => simp; omega
                   intro V' w5 hown' hgrow _ hob
                   have ST := Lib.hid (CInv.step CX.out HB3.out hcb HRB.out hown' hgrow hob)
                   clear hown' hgrow hob)
      go_roundg g
      case measure => omega
      case rel => exact ⟨V', i + 1, _, rfl, by go_num, by omega, by show CInv _ _ _ _ (l.take (i + 1)) _; rw [hts.out]; exact ST.out⟩
    · obtain rfl : i = l.len := by omega
      have hr := HR.out.below hbr (by omega)
      have z0 := hr.c0; have z1 := hr.c1; have z2 := hr.c2; have z3 := hr.c3; have f0 := hr.fr 0; have f1 := hr.fr 1; have f2 := hr.fr 2; have f3 := hr.fr 3
      obtain ⟨sb, cb, hbv, hcb, hrb⟩ := hC.out.rep
      rw [VL.take_len] at hbv hcb hrb
      have hC2 := hC.out
      rw [VL.take_len] at hC2
      have HF := Lib.hid (show StB ((((wr.setCell ⟨w.heap.size, 0, none⟩ (.int .i64 4)).setCell ⟨w.heap.size, 1, none⟩ (.int .i64 0)).setCell ⟨w.heap.size, 2, none⟩ (.string ⟨#[]⟩)).setCell ⟨w.heap.size, 3, none⟩ bv) w.heap.size (.int .i64 4) (.int .i64 0) (.string ⟨#[]⟩) bv ∧
        ∃ (V : Value) (xs : List Value), Ending.returned (.agg #[.int .i64 4, .int .i64 0, .string ⟨#[]⟩, bv]) = .returned (.agg #[.int .i64 4, .int .i64 0, .string ⟨#[]⟩, V]) ∧ CInv w.heap.size w ((((wr.setCell ⟨w.heap.size, 0, none⟩ (.int .i64 4)).setCell ⟨w.heap.size, 1, none⟩ (.int .i64 0)).setCell ⟨w.heap.size, 2, none⟩ (.string ⟨#[]⟩)).setCell ⟨w.heap.size, 3, none⟩ bv) V l xs
        from ⟨hr.set4 _ _ _ _, bv, xs, rfl, (hwz ▸ hC2).set4 (HB.out.trans (below_le' hbr (by omega))) (by omega) _ _ _ _⟩)
      clear hC hC2
      subst hbv
      clear hr hbr hrb
      go_wp2_with fail
      exact ret_cell4 Tryz.results13 w.heap.size rfl rfl HF.out.1 HF.out.2
end Go.Proofs.YtbalpfpcbckghaaGreatDoor
namespace Go.Proofs.YtbalpfpcbckghaaGreatDoor
open Go.RowKit Go.Lib Go.Sort Go.Shelf
set_option linter.unusedVariables false
set_option linter.unusedSimpArgs false

theorem sortF_c {w : World} {g cap : Nat} {d : Array (VA w g)} (hH : HoldsK encA 4 w g 0 d) (hg : g < w.heap.size) (hn : d.size < 40) :
    Calls Tryz.prog 161 #[.slice (some ⟨g, 0, none⟩) d.size cap, fnV] w fun e w' => e = .returned (.tuple #[]) ∧ SWK encA 4 w g 0 (stabS (ltOf cfA) d d.size) w' := by
  have C := Lib.hid (stable_c (cap := cap) (rowA hH hg) rfl (SWK.start hH) hn)
  obtain ⟨n, hnn⟩ : ∃ n, n = d.size := ⟨_, rfl⟩
  obtain ⟨fn, hfn⟩ : ∃ fn, fn = fnV := ⟨_, rfl⟩
  rw [← hnn, ← hfn] at C ⊢
  clear hnn hfn hH
  go_enter Tryz.func161, Tryz.ntmps161
  go_wp2_with fail
  refine C.out.mono ?_
  rintro e w' ⟨rfl, S⟩
  have S1 := Lib.hid S
  clear S
  go_wp2_with fail
  go_end0
  exact ⟨rfl, S1.out⟩
theorem va_row {w : World} {g : Nat} : ∀ (es : List VE), (∀ e ∈ es, e.Away w g) → ∃ d : Array (VA w g), d.toList.map (·.1) = es
  | [], _ => ⟨#[], rfl⟩
  | e :: r, h => by
    obtain ⟨d, hd⟩ := va_row r (fun x hx => h x (List.mem_cons_of_mem _ hx))
    refine ⟨((⟨e, h e (List.mem_cons_self ..)⟩ : VA w g) :: d.toList).toArray, ?_⟩
    show e :: d.toList.map (·.1) = e :: r
    rw [hd]
/-- A row sorted: what comes out. -/
def SortOut (base : Nat) (w : World) (V : Value) (l : VL) (w' : World) : Prop :=
  ∃ (m : VL) (sb : Option Addr) (cb : Nat), V = .slice sb l.len cb ∧ m.len = l.len ∧ (itms m).Perm (itms l) ∧ (itms m).Pairwise (fun x y => ltV y x = false) ∧ l.len ≤ cb ∧ RpL w' (fun b => base ≤ b ∧ b < w'.heap.size) m sb ∧ Below base w w'
theorem sortR_c {base : Nat} {w0 w : World} {V : Value} {l : VL} {xs : List Value} (h : CInv base w0 w V l xs) (h0 : 0 < l.len) (hl : l.len < 40) (hk : kfew l) (hf : l.fit) :
    Calls Tryz.prog 161 #[V, fnV] w fun e w' => e = .returned (.tuple #[]) ∧ SortOut base w V l w' := by
  obtain ⟨hlen, hown⟩ := h.own
  rcases hown with ⟨_, e0⟩ | ⟨g, cap, cur, rfl, hbg, hh, hnc, hcm, hcz, htk⟩
  · omega
  have hgz : g < w.heap.size := (Array.getElem?_eq_some_iff.1 hh).1
  obtain ⟨es, he1, he2, he3⟩ := cells_es l xs h.cells hk hf
  have hel : es.length = l.len := by rw [← itms_len, ← he1, List.length_map]
  have haw : ∀ e ∈ es, e.Away w g := fun e he => by
    obtain ⟨f, c, r⟩ := he2 e he
    exact ⟨f.k, f.few, f.len, f.fit, c, r.wide fun b hb => ⟨hb.2.1, fun e => hb.2.2 (by rw [e]; rfl)⟩⟩
  obtain ⟨d, hdl⟩ := va_row es haw
  have hdz : d.size = l.len := by rw [← hel, ← hdl, List.length_map, Array.length_toList]
  have hH : HoldsK encA 4 w g 0 d := holds_es hh fun i e hi c v hv => by
    rw [hdl] at hi
    have hx := he3 i e hi c v hv
    rw [← htk, List.getElem?_take] at hx
    split at hx
    · rw [← Array.getElem?_toList]; exact hx
    · cases hx
  have C := sortF_c (cap := cap) hH hgz (by omega)
  rw [hdz] at C
  refine C.mono ?_
  rintro e w' ⟨rfl, S⟩
  refine ⟨rfl, ?_⟩
  obtain ⟨p1, s1⟩ := stabS_spec (swoA (w := w) (blk := g)) d l.len (by omega)
  obtain ⟨d', hd'⟩ : ∃ d', d' = stabS (ltOf cfA) d l.len := ⟨_, rfl⟩
  rw [← hd'] at S p1 s1
  obtain ⟨z1, _, pe⟩ := p1
  rw [← hdz, show d'.extract 0 d.size = d' by rw [← z1]; exact Array.extract_size, Array.extract_size] at pe
  have hH' := S.holds hgz hH z1
  obtain ⟨n, os, rfl⟩ := S
  have pv : ((d'.toList.map (·.1)).map VE.vl).Perm (itms l) := by
    rw [← he1, ← hdl]
    exact (pe.map _).map _
  have hB : Below base w (sortWorldK encA 4 w g 0 n d' os) := ⟨rfl, rfl, rfl, size_sortWorldK_c _ _ _ _ _ _ _ _, fun k hkb => heap_sortK _ _ _ _ _ _ _ _ _ (by omega) (by omega)⟩
  refine ⟨ofI ((d'.toList.map (·.1)).map VE.vl), some ⟨g, 0, none⟩, cap, rfl, ?_, by rw [itms_vl]; exact pv, ?_, hnc, ?_, hB⟩
  · rw [len_vl, List.length_map, Array.length_toList, z1, hdz]
  · rw [itms_vl]
    refine List.pairwise_map.2 (List.pairwise_map.2 ?_)
    rw [List.pairwise_iff_getElem]
    intro i j hi hj hij
    rw [Array.length_toList] at hi hj
    have := s1 i j (Nat.zero_le _) hij (by omega)
    rw [ltOf_A, getElem!_pos d' i hi, getElem!_pos d' j hj] at this
    exact this
  · refine rep_es ⟨hbg, Nat.lt_of_lt_of_le hgz (size_sortWorldK_c _ _ _ _ _ _ _ _)⟩ _ 0 ?_ ?_
    · intro e he
      have : e ∈ es := by
        rw [← hdl]
        exact (pe.map _).subset he
      obtain ⟨_, c, r⟩ := he2 e this
      exact ⟨c, r.keep (fun b hb => heap_sortK _ _ _ _ _ _ _ _ _ (fun e => hb.2.2 (by rw [e]; rfl)) hb.2.1) (fun b hb => ⟨hb.1, Nat.lt_of_lt_of_le hb.2.1 (size_sortWorldK_c _ _ _ _ _ _ _ _)⟩)⟩
    · intro i e he c v hv
      have hi : i < d'.size := by
        have := (List.getElem?_eq_some_iff.1 he).1
        rw [List.length_map, Array.length_toList] at this
        exact this
      have hd1 : (d'[i]!).1 = e := by
        rw [List.getElem?_map, Array.getElem?_toList, Array.getElem?_eq_getElem hi] at he
        rw [getElem!_pos d' i hi]
        exact Option.some.inj he
      have := HoldsK.cells (enc := encA) (k := 4) hH' (fun _ => rfl) hi c v (by rw [show encA d'[i]! = e.cells by rw [← hd1]; rfl]; exact hv)
      rw [Addr.add_lit] at this
      rw [← Nat.add_assoc]
      exact this
set_option maxRecDepth 100000 in
set_option maxHeartbeats 4000000 in
theorem sort_c (l : VL) (sa : Option Addr) (sc : Nat) (w : World) (hcost : cost l ≤ 100000) (hsc : l.len ≤ sc) (hrep : RpL w (fun b => b < w.heap.size) l sa) (h0 : 0 < l.len) (hl : l.len < 40) (hk : kfew l) (hf : l.fit) :
    Calls Tryz.prog 106 #[.slice sa l.len sc] w fun e w' => ∃ (V : Value), e = .returned V ∧ SortOut w.heap.size w V l w' := by
  have CV := Lib.hid (valL_o l sa sc w hcost hsc hrep)
  have SC := Lib.hid (fun (V : Value) (xs : List Value) (w2 : World) (h : CInv w.heap.size w w2 V l xs) => sortR_c h h0 hl hk hf)
  obtain ⟨fn, hfn⟩ : ∃ fn, fn = fnV := ⟨_, rfl⟩
  have HFN := Lib.hid hfn
  clear hrep hk hf hfn hcost
  go_enter Tryz.func106, Tryz.ntmps106
  go_wp2_with fail
  refine CV.out.mono ?_
  rintro e w2 ⟨V, xs, rfl, hC⟩
  obtain ⟨sb, cb, rfl, -, -⟩ := hC.rep
  have S1 := Lib.hid (SC.out _ xs w2 hC)
  have HB := Lib.hid hC.below
  have hfld : ∀ W : World, (Instr.field 24 (.agg #[.int .i64 4, .int .i64 0, .string ⟨#[]⟩, .slice sb l.len cb]) 3).run Tryz.prog W = .ok (.slice sb l.len cb) W := fun W => by kernel_rfl
  clear hC CV SC
  go_wp2_with fail
  refine S1.out.mono ?_
  rintro e w3 ⟨rfl, hS⟩
  have HS := Lib.hid hS
  clear hS S1
  go_wp2_with fail
  go_ret
  obtain ⟨m, sb, cb, hV, r1, r2, r3, r4, r5, r6⟩ := HS.out
  exact ⟨_, rfl, m, sb, cb, hV, r1, r2, r3, r4, r5, HB.out.trans r6⟩
end Go.Proofs.YtbalpfpcbckghaaGreatDoor
namespace Go.Proofs.YtbalpfpcbckghaaGreatDoor
open Go.RowKit Go.Lib Go.Sort Go.Shelf
set_option linter.unusedVariables false
set_option linter.unusedSimpArgs false

/-- A row turned: what comes out. -/
def TurnOut (base : Nat) (w : World) (V : Value) (l : VL) (w' : World) : Prop :=
  ∃ (m : VL) (sb : Option Addr) (cb : Nat), V = .slice sb l.len cb ∧ m.len = l.len ∧ itms m = (itms l).reverse ∧ l.len ≤ cb ∧ RpL w' (fun b => base ≤ b ∧ b < w'.heap.size) m sb ∧ Below base w w'
theorem turnR_c {base : Nat} {w0 w : World} {V : Value} {l : VL} {xs : List Value} (h : CInv base w0 w V l xs) (h0 : 0 < l.len) (hl : l.len < 40) (hk : kfew l) (hf : l.fit) :
    Calls Tryz.prog 164 #[V] w fun e w' => e = .returned (.tuple #[]) ∧ TurnOut base w V l w' := by
  obtain ⟨hlen, hown⟩ := h.own
  rcases hown with ⟨_, e0⟩ | ⟨g, cap, cur, rfl, hbg, hh, hnc, hcm, hcz, htk⟩
  · omega
  have hgz : g < w.heap.size := (Array.getElem?_eq_some_iff.1 hh).1
  obtain ⟨es, he1, he2, he3⟩ := cells_es l xs h.cells hk hf
  have hel : es.length = l.len := by rw [← itms_len, ← he1, List.length_map]
  have haw : ∀ e ∈ es, e.Away w g := fun e he => by
    obtain ⟨f, c, r⟩ := he2 e he
    exact ⟨f.k, f.few, f.len, f.fit, c, r.wide fun b hb => ⟨hb.2.1, fun e => hb.2.2 (by rw [e]; rfl)⟩⟩
  obtain ⟨d, hdl⟩ := va_row es haw
  have hdz : d.size = l.len := by rw [← hel, ← hdl, List.length_map, Array.length_toList]
  have hH : HoldsK encA 4 w g 0 d := holds_es hh fun i e hi c v hv => by
    rw [hdl] at hi
    have hx := he3 i e hi c v hv
    rw [← htk, List.getElem?_take] at hx
    split at hx
    · rw [← Array.getElem?_toList]; exact hx
    · cases hx
  have R := rowA hH hgz
  have C := AnyQ.slices_Reverse Tryz.revV 4 Tryz.isAgg24 Tryz.sizeOf24 encA R.hk R.h1 g 0 cap d w hH (by omega)
  rw [hdz] at C
  refine C.mono ?_
  rintro e w' ⟨rfl, n, hw'⟩
  refine ⟨rfl, ?_⟩
  have S : SWK encA 4 w g 0 d.reverse w' := ⟨n, #[], by rw [hw']; unfold sortWorldK; rw [grow_empty]⟩
  clear hw'
  obtain ⟨d', hd'⟩ : ∃ d', d' = d.reverse := ⟨_, rfl⟩
  rw [← hd'] at S
  have z1 : d'.size = d.size := by rw [hd']; simp
  have pe : d'.toList = d.toList.reverse := by rw [hd']; simp
  have hH' := S.holds hgz hH z1
  obtain ⟨n, os, rfl⟩ := S
  have pv : (d'.toList.map (·.1)).map VE.vl = (itms l).reverse := by
    rw [← he1, ← hdl, pe, List.map_reverse, List.map_reverse]
  have hB : Below base w (sortWorldK encA 4 w g 0 n d' os) := ⟨rfl, rfl, rfl, size_sortWorldK_c _ _ _ _ _ _ _ _, fun k hkb => heap_sortK _ _ _ _ _ _ _ _ _ (by omega) (by omega)⟩
  refine ⟨ofI ((d'.toList.map (·.1)).map VE.vl), some ⟨g, 0, none⟩, cap, rfl, ?_, by rw [itms_vl]; exact pv, hnc, ?_, hB⟩
  · rw [len_vl, List.length_map, Array.length_toList, z1, hdz]
  · refine rep_es ⟨hbg, Nat.lt_of_lt_of_le hgz (size_sortWorldK_c _ _ _ _ _ _ _ _)⟩ _ 0 ?_ ?_
    · intro e he
      have : e ∈ es := by
        rw [pe, List.map_reverse, hdl] at he
        exact List.mem_reverse.1 he
      obtain ⟨_, c, r⟩ := he2 e this
      exact ⟨c, r.keep (fun b hb => heap_sortK _ _ _ _ _ _ _ _ _ (fun e => hb.2.2 (by rw [e]; rfl)) hb.2.1) (fun b hb => ⟨hb.1, Nat.lt_of_lt_of_le hb.2.1 (size_sortWorldK_c _ _ _ _ _ _ _ _)⟩)⟩
    · intro i e he c v hv
      have hi : i < d'.size := by
        have := (List.getElem?_eq_some_iff.1 he).1
        rw [List.length_map, Array.length_toList] at this
        exact this
      have hd1 : (d'[i]!).1 = e := by
        rw [List.getElem?_map, Array.getElem?_toList, Array.getElem?_eq_getElem hi] at he
        rw [getElem!_pos d' i hi]
        exact Option.some.inj he
      have := HoldsK.cells (enc := encA) (k := 4) hH' (fun _ => rfl) hi c v (by rw [show encA d'[i]! = e.cells by rw [← hd1]; rfl]; exact hv)
      rw [Addr.add_lit] at this
      rw [← Nat.add_assoc]
      exact this
set_option maxRecDepth 100000 in
set_option maxHeartbeats 4000000 in
theorem turn_c (l : VL) (sa : Option Addr) (sc : Nat) (w : World) (hcost : cost l ≤ 100000) (hsc : l.len ≤ sc) (hrep : RpL w (fun b => b < w.heap.size) l sa) (h0 : 0 < l.len) (hl : l.len < 40) (hk : kfew l) (hf : l.fit) :
    Calls Tryz.prog 107 #[.slice sa l.len sc] w fun e w' => ∃ (V : Value), e = .returned V ∧ TurnOut w.heap.size w V l w' := by
  have CV := Lib.hid (valL_o l sa sc w hcost hsc hrep)
  have SC := Lib.hid (fun (V : Value) (xs : List Value) (w2 : World) (h : CInv w.heap.size w w2 V l xs) => turnR_c h h0 hl hk hf)
  clear hrep hk hf hcost
  go_enter Tryz.func107, Tryz.ntmps107
  go_wp2_with fail
  refine CV.out.mono ?_
  rintro e w2 ⟨V, xs, rfl, hC⟩
  obtain ⟨sb, cb, rfl, -, -⟩ := hC.rep
  have S1 := Lib.hid (SC.out _ xs w2 hC)
  have HB := Lib.hid hC.below
  have hfld : ∀ W : World, (Instr.field 24 (.agg #[.int .i64 4, .int .i64 0, .string ⟨#[]⟩, .slice sb l.len cb]) 3).run Tryz.prog W = .ok (.slice sb l.len cb) W := fun W => by kernel_rfl
  clear hC CV SC
  go_wp2_with fail
  refine S1.out.mono ?_
  rintro e w3 ⟨rfl, hS⟩
  have HS := Lib.hid hS
  clear hS S1
  go_wp2_with fail
  go_ret
  obtain ⟨m, sb, cb, hV, r1, r2, r4, r5, r6⟩ := HS.out
  exact ⟨_, rfl, m, sb, cb, hV, r1, r2, r4, r5, HB.out.trans r6⟩
end Go.Proofs.YtbalpfpcbckghaaGreatDoor
namespace Go.Proofs.YtbalpfpcbckghaaGreatDoor
open Go.RowKit Go.Lib Go.Sort Go.Shelf
set_option linter.unusedVariables false
set_option linter.unusedSimpArgs false

/-- How deep values are; how great. -/
def vD : VL → Int → Int
  | .nil, a => a
  | .cons k n s sub rest, a => vD rest (max a (vD sub 0 + 1))
def vS : VL → Int → Int
  | .nil, a => a
  | .cons k n s sub rest, a => vS rest (a + vS sub (1 + (s.size : Int)))
theorem vD_ge : ∀ (l : VL) (a : Int), a ≤ vD l a
  | .nil, a => Int.le_refl _
  | .cons k n s sub rest, a => by
    have := vD_ge rest (max a (vD sub 0 + 1))
    rw [vD]; omega
theorem vD_le : ∀ (l : VL) (a : Int), vD l a ≤ max a (cost l)
  | .nil, a => by rw [vD]; omega
  | .cons k n s sub rest, a => by
    have h1 := vD_le sub 0
    have h2 := vD_le rest (max a (vD sub 0 + 1))
    have h3 := cost_ge sub
    have h4 := cost_ge rest
    have h5 := mOf_ge k s
    rw [vD, cost]; omega
theorem vS_ge : ∀ (l : VL) (a : Int), 0 ≤ a → a + l.len ≤ vS l a
  | .nil, a, _ => by rw [vS]; show a + ((0 : Nat) : Int) ≤ a; omega
  | .cons k n s sub rest, a, h => by
    have h1 := vS_ge sub (1 + (s.size : Int)) (by omega)
    have h2 := vS_ge rest (a + vS sub (1 + (s.size : Int))) (by omega)
    rw [vS]
    show a + ((rest.len + 1 : Nat) : Int) ≤ _
    omega
def VDeepC (N : Nat) : Prop := ∀ (k n : Int) (s : ByteArray) (sub : VL) (sa : Option Addr) (sc : Nat) (w : World), sub.size < N → cost sub ≤ 100000 → sub.len ≤ sc → RpL w (fun b => b < w.heap.size) sub sa →
  Calls Tryz.prog 206 #[.agg #[.int .i64 k, .int .i64 n, .string s, .slice sa sub.len sc]] w fun e w' => e = .returned (.int .i64 (1 + vD sub 0)) ∧ Below w.heap.size w w'
def VSizeC (N : Nat) : Prop := ∀ (k n : Int) (s : ByteArray) (sub : VL) (sa : Option Addr) (sc : Nat) (w : World), sub.size < N → vS sub (1 + (s.size : Int)) ≤ 100000 → sub.len ≤ sc → RpL w (fun b => b < w.heap.size) sub sa →
  Calls Tryz.prog 60 #[.agg #[.int .i64 k, .int .i64 n, .string s, .slice sa sub.len sc]] w fun e w' => e = .returned (.int .i64 (vS sub (1 + (s.size : Int)))) ∧ Below w.heap.size w w'
set_option maxRecDepth 100000 in
set_option maxHeartbeats 4000000 in
theorem vdeep_step (N : Nat) (ih : ∀ N', N' < N → VDeepC N') : VDeepC N := by
  intro k n s sub sa sc w hN hcost hsc hrep
  obtain ⟨wa, hwa⟩ : ∃ wa, wa = w.alloc (.cells #[.int .i64 k, .int .i64 n, .string s, .slice sa sub.len sc] 24) := ⟨_, rfl⟩
  have hba : Below w.heap.size w wa := by rw [hwa]; exact (Below.refl _ _).alloc (Nat.le_refl _) _
  have hwz : wa.heap.size = w.heap.size + 1 := by rw [hwa]; simp
  have hV : StB wa w.heap.size (.int .i64 k) (.int .i64 n) (.string s) (.slice sa sub.len sc) := by rw [hwa]; exact StB.new w _ _ _ _
  have v2 := hV.c2; have v3 := hV.c3
  have HV := Lib.hid hV
  have HB := Lib.hid hba
  have HWA := Lib.hid hwa
  have HWZ := Lib.hid hwz
  have HRP := Lib.hid (hrep.keep (w' := wa) (fun b hb => hba.block b hb) (fun b hb => hb))
  have hln := len_cost sub
  have hall := vD_le sub 0
  have hall0 := vD_ge sub 0
  rw [hwa] at v2 v3
  obtain ⟨T, hT⟩ : ∃ T, T = vD sub 0 := ⟨_, rfl⟩
  have HT := Lib.hid hT
  rw [← hT] at hall hall0 ⊢
  clear hba hwz hV hwa hrep hT
  go_enter Tryz.func206, Tryz.ntmps206
  go_wp2_with fail
  rw [← HWA.out]
  clear v2 v3
  go_loopg [3, 9] sub.len (fun kk ov v wr => ∃ (a : Int) (i : Nat), ov = .int .i64 a ∧ v = .int .i64 i ∧ i + kk = sub.len ∧ 0 ≤ a ∧ a ≤ 100000 ∧ Hid (vD (sub.drop i) a = T) ∧ Hid (Below wa.heap.size wa wr))
  case atStart => exact ⟨0, 0, rfl, rfl, by omega, by omega, by omega, by show vD (sub.drop 0) _ = _; rw [VL.drop, HT.out], Below.refl _ _⟩
  case round =>
    obtain ⟨a, i, rfl, rfl, hik, ha0, ha1, hda, hbr⟩ := hrel
    have hrz := hbr.out.size
    have hwz := HWZ.out
    by_cases hi : i < sub.len
    · obtain ⟨g, rfl⟩ : ∃ g, gk = g + 1 := ⟨gk - 1, by omega⟩
      obtain ⟨b, o, k', n', s', sub', sa', sc', hA, hd, hSb, c0, c1, c2, c3, hcl, hrs, hszd⟩ := rp_at (HRP.out.keep (w' := wr) (fun b hb => hbr.out.block b (by omega)) (fun b hb => hb)) hi
      have hcd := cost_drop i sub
      rw [hd, cost] at hcd
      have hcr := cost_ge (sub.drop (i + 1))
      have hcs := cost_ge sub'
      have hmm := mOf_ge k' s'
      obtain ⟨wx, hwx⟩ : ∃ wx, wx = wr.alloc (.cells #[.int .i64 k', .int .i64 n', .string s', .slice sa' sub'.len sc'] 24) := ⟨_, rfl⟩
      have hbx : Below wr.heap.size wr wx := by rw [hwx]; exact (Below.refl _ _).alloc (Nat.le_refl _) _
      have hxz : wx.heap.size = wr.heap.size + 1 := by rw [hwx]; simp
      have IHC := Lib.hid (ih (sub'.size + 1) (by omega) k' n' s' sub' sa' sc' wx (by omega) (by omega) hcl (hrs.keep (fun b hb => hbx.block b (by omega)) (fun b hb => by omega)))
      have HBX := Lib.hid (hbr.out.trans (below_le' hbx hrz))
      have HWX := Lib.hid hwx
      have HN := Lib.hid (show vD (sub.drop (i + 1)) (max a (1 + vD sub' 0)) = T by rw [← hda.out, hd, vD, Int.add_comm 1])
      have hdb : 0 ≤ 1 + vD sub' 0 ∧ 1 + vD sub' 0 ≤ 100000 := by
        have h1 := vD_ge sub' 0
        have h2 := vD_le sub' 0
        omega
      obtain ⟨q, hq⟩ : ∃ q, q = 1 + vD sub' 0 := ⟨_, rfl⟩
      rw [← hq] at IHC HN hdb
      have HSA := Lib.hid hA
      subst hA
      clear hrs hd hcd hq hwx hbx
      go_wp2_with fail
      rw [← HWX.out]
      refine IHC.out.mono ?_
      rintro e w3 ⟨rfl, hb3⟩
      have hz3 := hb3.size
      have HB3 := Lib.hid (HBX.out.trans (below_le' hb3 (by omega)))
      clear hb3 c0 c1 c2 c3
      by_cases hm : a < q
      · have hmx : max a q = q := by omega
        rw [hmx] at HN
        go_wp2_with fail
        go_roundg g
        case measure => omega
        case rel => exact ⟨q, i + 1, by go_num, by go_num, by omega, by omega, by omega, HN.out, HB3.out⟩
      · have hmx : max a q = a := by omega
        rw [hmx] at HN
        go_wp2_with fail
        go_roundg g
        case measure => omega
        case rel => exact ⟨a, i + 1, by go_num, by go_num, by omega, by omega, by omega, HN.out, HB3.out⟩
    · obtain rfl : i = sub.len := by omega
      have HN := Lib.hid (show a = T by rw [← hda.out, VL.drop_len, vD])
      go_wp2_with fail
      go_ret
      exact ⟨ret_int (by rw [HN.out]), HB.out.trans (below_le' hbr.out (by omega))⟩
theorem vdeep_c (N : Nat) : VDeepC N := by
  induction N using Nat.strongRecOn with
  | _ N ih => exact vdeep_step N ih
set_option maxRecDepth 100000 in
set_option maxHeartbeats 4000000 in
theorem vsize_step (N : Nat) (ih : ∀ N', N' < N → VSizeC N') : VSizeC N := by
  intro k n s sub sa sc w hN hcost hsc hrep
  obtain ⟨wa, hwa⟩ : ∃ wa, wa = w.alloc (.cells #[.int .i64 k, .int .i64 n, .string s, .slice sa sub.len sc] 24) := ⟨_, rfl⟩
  have hba : Below w.heap.size w wa := by rw [hwa]; exact (Below.refl _ _).alloc (Nat.le_refl _) _
  have hwz : wa.heap.size = w.heap.size + 1 := by rw [hwa]; simp
  have hV : StB wa w.heap.size (.int .i64 k) (.int .i64 n) (.string s) (.slice sa sub.len sc) := by rw [hwa]; exact StB.new w _ _ _ _
  have v2 := hV.c2; have v3 := hV.c3
  have HV := Lib.hid hV
  have HB := Lib.hid hba
  have HWA := Lib.hid hwa
  have HWZ := Lib.hid hwz
  have HRP := Lib.hid (hrep.keep (w' := wa) (fun b hb => hba.block b hb) (fun b hb => hb))
  have hln := vS_ge sub (1 + (s.size : Int)) (by omega)
  rw [hwa] at v2 v3
  obtain ⟨T, hT⟩ : ∃ T, T = vS sub (1 + (s.size : Int)) := ⟨_, rfl⟩
  have HT := Lib.hid hT
  rw [← hT] at hcost hln ⊢
  clear hba hwz hV hwa hrep hT
  go_enter Tryz.func60, Tryz.ntmps60
  go_wp2_with fail
  rw [← HWA.out]
  clear v2 v3
  go_loopg [3, 13] sub.len (fun kk ov v wr => ∃ (a : Int) (i : Nat), ov = .int .i64 a ∧ v = .int .i64 i ∧ i + kk = sub.len ∧ 0 ≤ a ∧ a ≤ 100000 ∧ Hid (vS (sub.drop i) a = T) ∧ Hid (Below wa.heap.size wa wr))
  case atStart => exact ⟨(1 + (s.size : Int)), 0, rfl, rfl, by omega, by omega, by omega, by show vS (sub.drop 0) _ = _; rw [VL.drop, HT.out], Below.refl _ _⟩
  case round =>
    obtain ⟨a, i, rfl, rfl, hik, ha0, ha1, hda, hbr⟩ := hrel
    have hrz := hbr.out.size
    have hwz := HWZ.out
    by_cases hi : i < sub.len
    · obtain ⟨g, rfl⟩ : ∃ g, gk = g + 1 := ⟨gk - 1, by omega⟩
      obtain ⟨b, o, k', n', s', sub', sa', sc', hA, hd, hSb, c0, c1, c2, c3, hcl, hrs, hszd⟩ := rp_at (HRP.out.keep (w' := wr) (fun b hb => hbr.out.block b (by omega)) (fun b hb => hb)) hi
      have hq1 : vS (sub.drop (i + 1)) (a + vS sub' (1 + (s'.size : Int))) = T := by rw [← hda.out, hd, vS]
      have hq2 := vS_ge sub' (1 + (s'.size : Int)) (by omega)
      have hq3 := vS_ge (sub.drop (i + 1)) (a + vS sub' (1 + (s'.size : Int))) (by omega)
      rw [hq1] at hq3
      obtain ⟨wx, hwx⟩ : ∃ wx, wx = wr.alloc (.cells #[.int .i64 k', .int .i64 n', .string s', .slice sa' sub'.len sc'] 24) := ⟨_, rfl⟩
      have hbx : Below wr.heap.size wr wx := by rw [hwx]; exact (Below.refl _ _).alloc (Nat.le_refl _) _
      have hxz : wx.heap.size = wr.heap.size + 1 := by rw [hwx]; simp
      have IHC := Lib.hid (ih (sub'.size + 1) (by omega) k' n' s' sub' sa' sc' wx (by omega) (by omega) hcl (hrs.keep (fun b hb => hbx.block b (by omega)) (fun b hb => by omega)))
      have HBX := Lib.hid (hbr.out.trans (below_le' hbx hrz))
      have HWX := Lib.hid hwx
      have HN := Lib.hid hq1
      obtain ⟨q, hq⟩ : ∃ q, q = vS sub' (1 + (s'.size : Int)) := ⟨_, rfl⟩
      rw [← hq] at IHC HN hq2 hq3
      have hwr : IntKind.i64.wrap (a + q) = a + q := IntWalk.i64_in _ ⟨by omega, by omega⟩
      clear hq1
      have HSA := Lib.hid hA
      subst hA
      clear hrs hd hq hwx hbx
      go_wp2_with fail
      rw [← HWX.out]
      refine IHC.out.mono ?_
      rintro e w3 ⟨rfl, hb3⟩
      have hz3 := hb3.size
      have HB3 := Lib.hid (HBX.out.trans (below_le' hb3 (by omega)))
      clear hb3 c0 c1 c2 c3
      go_wp2_with fail
      go_roundg g
      case measure => omega
      case rel => exact ⟨a + q, i + 1, by go_num, by go_num, by omega, by omega, by omega, HN.out, HB3.out⟩
    · obtain rfl : i = sub.len := by omega
      have HN := Lib.hid (show a = T by rw [← hda.out, VL.drop_len, vS])
      go_wp2_with fail
      go_ret
      exact ⟨ret_int (by rw [HN.out]), HB.out.trans (below_le' hbr.out (by omega))⟩
theorem vsize_c (N : Nat) : VSizeC N := by
  induction N using Nat.strongRecOn with
  | _ N ih => exact vsize_step N ih
set_option maxRecDepth 100000 in
set_option maxHeartbeats 4000000 in
/-- A list of one's own, that may be. -/
theorem made_c (l : VL) (sa : Option Addr) (sc : Nat) (w : World) (hcost : cost l ≤ 100000) (hd : 1 + vD l 0 ≤ 40) (hs : vS l 1 ≤ 4096) (hsc : l.len ≤ sc) (hrep : RpL w (fun b => b < w.heap.size) l sa) :
    Calls Tryz.prog 156 #[.slice sa l.len sc] w fun e w' => ∃ (sb : Option Addr) (cb : Nat), e = .returned (.tuple #[.slice sb l.len cb, .int .i64 0]) ∧ l.len ≤ cb ∧ RpL w' (fun b => w.heap.size ≤ b ∧ b < w'.heap.size) l sb ∧ Below w.heap.size w w' := by
  have LC := Lib.hid (fun W (hW : Below w.heap.size w W) => valL_c l sa sc W hcost hsc (hrep.keep (w' := W) (fun b hb => hW.block b hb) (fun b hb => Nat.lt_of_lt_of_le hb hW.size)))
  have HRP := Lib.hid hrep
  have hln := vS_ge l 1 (by omega)
  have hDl := vD_ge l 0
  clear hrep
  go_enter Tryz.func156, Tryz.ntmps156
  go_wp2_with fail
  go_loopg [4, 5, 10] l.len (fun kk dv zv v wr => ∃ (a z : Int) (i : Nat), dv = .int .i64 (1 + a) ∧ zv = .int .i64 z ∧ v = .int .i64 i ∧ i + kk = l.len ∧ 0 ≤ a ∧ a ≤ 100000 ∧ 1 ≤ z ∧ z ≤ 4096 ∧ Hid (vD (l.drop i) a = vD l 0) ∧ Hid (vS (l.drop i) z = vS l 1) ∧ Hid (Below w.heap.size w wr))
  case atStart => exact ⟨0, 1, 0, rfl, rfl, rfl, by omega, by omega, by omega, by omega, by omega, by show vD (l.drop 0) _ = _; rw [VL.drop], by show vS (l.drop 0) _ = _; rw [VL.drop], Below.refl _ _⟩
  case round =>
    obtain ⟨a, z, i, rfl, rfl, rfl, hik, ha0, ha1, hz0, hz1, hda, hza, hbr⟩ := hrel
    have hrz := hbr.out.size
    by_cases hi : i < l.len
    · obtain ⟨g, rfl⟩ : ∃ g, gk = g + 1 := ⟨gk - 1, by omega⟩
      obtain ⟨b, o, k', n', s', sub', sa', sc', hA, hd2, hSb, c0, c1, c2, c3, hcl, hrs, hszd⟩ := rp_at (HRP.out.keep (w' := wr) (fun b hb => hbr.out.block b (by omega)) (fun b hb => hb)) hi
      have hcd := cost_drop i l
      rw [hd2, cost] at hcd
      have hcr := cost_ge (l.drop (i + 1))
      have hcs := cost_ge sub'
      have hmm := mOf_ge k' s'
      have hq1 : vS (l.drop (i + 1)) (z + vS sub' (1 + (s'.size : Int))) = vS l 1 := by rw [← hza.out, hd2, vS]
      have hq2 := vS_ge sub' (1 + (s'.size : Int)) (by omega)
      have hq3 := vS_ge (l.drop (i + 1)) (z + vS sub' (1 + (s'.size : Int))) (by omega)
      rw [hq1] at hq3
      obtain ⟨wx, hwx⟩ : ∃ wx, wx = wr.alloc (.cells #[.int .i64 k', .int .i64 n', .string s', .slice sa' sub'.len sc'] 24) := ⟨_, rfl⟩
      have hbx : Below wr.heap.size wr wx := by rw [hwx]; exact (Below.refl _ _).alloc (Nat.le_refl _) _
      have hxz : wx.heap.size = wr.heap.size + 1 := by rw [hwx]; simp
      have hX : StB wx wr.heap.size (.int .i64 k') (.int .i64 n') (.string s') (.slice sa' sub'.len sc') := by rw [hwx]; exact StB.new wr _ _ _ _
      have RX := Lib.hid (fun W (hW : Below wx.heap.size wx W) => hrs.keep (w' := W) (S' := fun b => b < W.heap.size) (fun b hb => (hW.block b (by omega)).trans (hbx.block b (by omega))) (fun b hb => by have := hW.size; omega))
      have DC := Lib.hid (vdeep_c (sub'.size + 1) k' n' s' sub' sa' sc' wx (by omega) (by omega) hcl (RX.out wx (Below.refl _ _)))
      have ZC := Lib.hid (fun W (hW : Below wx.heap.size wx W) => vsize_c (sub'.size + 1) k' n' s' sub' sa' sc' W (by omega) (by omega) hcl (RX.out W hW))
      have HX := Lib.hid hX
      have HBX := Lib.hid (hbr.out.trans (below_le' hbx hrz))
      have HWX := Lib.hid hwx
      have HN := Lib.hid (show vD (l.drop (i + 1)) (max a (1 + vD sub' 0)) = vD l 0 by rw [← hda.out, hd2, vD, Int.add_comm 1])
      have hdb : 0 ≤ 1 + vD sub' 0 ∧ 1 + vD sub' 0 ≤ 100000 := by
        have h1 := vD_ge sub' 0
        have h2 := vD_le sub' 0
        omega
      obtain ⟨q, hq⟩ : ∃ q, q = 1 + vD sub' 0 := ⟨_, rfl⟩
      rw [← hq] at DC HN hdb
      have HN2 := Lib.hid hq1
      obtain ⟨y, hy⟩ : ∃ y, y = vS sub' (1 + (s'.size : Int)) := ⟨_, rfl⟩
      rw [← hy] at ZC HN2 hq2 hq3
      have hwr : IntKind.i64.wrap (z + y) = z + y := IntWalk.i64_in _ ⟨by omega, by omega⟩
      have hmn : min (z + y) 4097 = z + y := by omega
      have HSA := Lib.hid hA
      subst hA
      clear hq1 hrs hd2 hcd hq hy hwx hbx hX
      go_wp2_with fail
      rw [← HWX.out]
      refine DC.out.mono ?_
      rintro e w3 ⟨rfl, hb3⟩
      have hz3 := hb3.size
      have ZC3 := Lib.hid (ZC.out w3 hb3)
      have HB3 := Lib.hid (HBX.out.trans (below_le' hb3 (by omega)))
      have hX3 := HX.out.below hb3 (by omega)
      clear hb3 c0 c1 c2 c3 ZC DC RX
      have x0 := hX3.c0; have x1 := hX3.c1; have x2 := hX3.c2; have x3 := hX3.c3
      clear hX3
      by_cases hm : a < q
      · have hmx : max a q = q := by omega
        rw [hmx] at HN
        have hm1 : 1 + a < 1 + q := by omega
        go_wp2_with fail
        refine ZC3.out.mono ?_
        rintro e w4 ⟨rfl, hb4⟩
        have HB4 := Lib.hid (HB3.out.trans (below_le' hb4 (by have := HB3.out.size; omega)))
        clear hb4 x0 x1 x2 x3
        go_wp2_with fail
        go_roundg g
        case measure => omega
        case rel => exact ⟨q, z + y, i + 1, by go_num, by go_num, by go_num, by omega, by omega, by omega, by omega, by omega, HN.out, HN2.out, HB4.out⟩
      · have hmx : max a q = a := by omega
        rw [hmx] at HN
        have hm1 : ¬ 1 + a < 1 + q := by omega
        go_wp2_with fail
        refine ZC3.out.mono ?_
        rintro e w4 ⟨rfl, hb4⟩
        have HB4 := Lib.hid (HB3.out.trans (below_le' hb4 (by have := HB3.out.size; omega)))
        clear hb4 x0 x1 x2 x3
        go_wp2_with fail
        go_roundg g
        case measure => omega
        case rel => exact ⟨a, z + y, i + 1, by go_num, by go_num, by go_num, by omega, by omega, by omega, by omega, by omega, HN.out, HN2.out, HB4.out⟩
    · obtain rfl : i = l.len := by omega
      have hN : a = vD l 0 := by rw [← hda.out, VL.drop_len, vD]
      have h40 : ¬ (40 : Int) < 1 + a := by omega
      have hz9 : ¬ (4096 : Int) < z := by omega
      have CL := Lib.hid (LC.out wr hbr.out)
      have HB := hbr
      clear hN hbr hda hza
      go_wp2_with fail
      refine CL.out.mono ?_
      rintro e w3 ⟨sb, cb, rfl, hcb, hrb, hb3⟩
      have HF := Lib.hid (show l.len ≤ cb ∧ RpL w3 (fun b => w.heap.size ≤ b ∧ b < w3.heap.size) l sb ∧ Below w.heap.size w w3 from ⟨hcb, hrb.wide (fun b hb => ⟨by omega, hb.2⟩), HB.out.trans (below_le' hb3 hrz)⟩)
      have hfld : ∀ W : World, (Instr.field 24 (.agg #[.int .i64 4, .int .i64 0, .string ⟨#[]⟩, .slice sb l.len cb]) 3).run Tryz.prog W = .ok (.slice sb l.len cb) W := fun W => by kernel_rfl
      clear hb3 hrb
      go_wp2_with fail
      go_ret2
      exact ⟨sb, cb, rfl, HF.out⟩
end Go.Proofs.YtbalpfpcbckghaaGreatDoor
namespace Go.Proofs.YtbalpfpcbckghaaGreatDoor
open Go.RowKit Go.Lib
set_option linter.unusedVariables false

/-- Each value is right by itself, whatever its depth. -/
def OwnL : VL → Prop
  | .nil => True
  | .cons k n s sub rest => ownE k n s sub.len = 0 ∧ OwnL sub ∧ OwnL rest
theorem ownL_of : ∀ (l : VL) (d : Int), OkL l d → OwnL l
  | .nil, _, _ => trivial
  | .cons k n s sub rest, d, h => ⟨h.1, ownL_of sub (d + 1) h.2.2.1, ownL_of rest d h.2.2.2⟩
theorem ownL_rights : ∀ l : VL, rightsL l = true → OwnL l
  | .nil, _ => trivial
  | .cons k n s sub rest, h => by
    rw [rightsL, Bool.and_eq_true] at h
    have h1 := walk1_ok (of_decide_eq_true h.1)
    exact ⟨(OkL_one h1).1, ownL_of sub _ (OkL_one h1).2, ownL_rights rest h.2⟩
theorem own_leaf {k n : Int} {s : ByteArray} {sub : VL} (h : ownE k n s sub.len = 0) (hk : k ≠ 4) : sub = .nil := by
  have h0 : sub.len = 0 := by
    rcases own_ok h with ⟨_, _, e⟩ | ⟨_, _, _, _, e⟩ | ⟨_, _, e, _⟩ | ⟨_, _, _, _, e⟩ | ⟨e, _⟩
    · exact e
    · exact e
    · exact e
    · exact e
    · exact absurd e hk
  cases sub with
  | nil => rfl
  | cons _ _ _ _ _ => exact absurd h0 (Nat.succ_ne_zero _)
theorem deepF_max : ∀ (l : VL) (a : Int), 0 ≤ a → deepF l a = max a (deepF l 0)
  | .nil, a, h => by rw [deepF, deepF]; omega
  | .cons k n s sub rest, a, h => by
    rw [deepF_cons, deepF_cons, deepF_max rest (max a (dp k sub)) (by omega), deepF_max rest (max 0 (dp k sub)) (by omega)]
    omega
theorem szF_cost : ∀ (l : VL) (a : Int), OwnL l → szF l a = a + cost l
  | .nil, a, _ => by rw [szF, cost]; omega
  | .cons k n s sub rest, a, h => by
    have h1 : sz1 k s sub = 1 + mOf k s + cost sub := by
      unfold sz1 mOf
      by_cases k2 : k = 2
      · have := own_leaf h.1 (by omega)
        subst this
        rw [if_pos k2, if_pos k2, cost]; omega
      · rw [if_neg k2, if_neg k2]
        by_cases k4 : k = 4
        · rw [if_pos k4, szF_cost sub 1 h.2.1]; omega
        · have := own_leaf h.1 k4
          subst this
          rw [if_neg k4, cost]; omega
    rw [szF_cons, szF_cost rest _ h.2.2, h1, cost]; omega
theorem walkL_conv : ∀ (l : VL) (d left : Int), OwnL l → cost l ≤ left → deepF l 0 + d ≤ 41 → (walkL l d left).1 = 0 ∧ (walkL l d left).2 = left - cost l
  | .nil, d, left, _, h, _ => ⟨rfl, by rw [cost]; unfold walkL; simp⟩
  | .cons k n s sub rest, d, left, ho, h, hd => by
    rw [deepF_cons, deepF_max rest _ (by omega)] at hd
    rw [cost] at h ⊢
    have hm := mOf_ge k s
    have hc1 := cost_ge sub
    have hc2 := cost_ge rest
    have hsub0 : 0 ≤ deepF sub 0 := (deepF_bound sub 0).1
    have hdp : 1 ≤ dp k sub := by unfold dp; split <;> omega
    have hdsub : deepF sub 0 + 1 = dp k sub := by
      unfold dp
      by_cases k4 : k = 4
      · rw [if_pos k4]
      · have := own_leaf ho.1 k4
        subst this
        rw [if_neg k4, deepF]
    have h1 : (walk1 k n s sub d left).1 = 0 ∧ (walk1 k n s sub d left).2 = left - (1 + mOf k s + cost sub) := by
      unfold walk1
      rw [if_neg (by omega), if_neg (by omega), if_pos ho.1]
      have := walkL_conv sub (d + 1) (left - (1 + mOf k s)) ho.2.1 (by omega) (by omega)
      exact ⟨this.1, by rw [this.2]; omega⟩
    rw [walkL_cons, if_pos h1.1, h1.2]
    have := walkL_conv rest d (left - (1 + mOf k s + cost sub)) ho.2.2 (by omega) (by omega)
    exact ⟨this.1, by rw [this.2]; omega⟩
end Go.Proofs.YtbalpfpcbckghaaGreatDoor
