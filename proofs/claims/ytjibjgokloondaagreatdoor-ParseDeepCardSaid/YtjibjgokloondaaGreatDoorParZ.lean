/- Contracts of the functions that the statement reaches, and the plain mathematics beneath: several texts joined. -/
import Derived.Test.YtjibjgokloondaaGreatDoorParY
import Derived.Test.YtjibjgokloondaaGreatDoorParX
import Derived.Test.YtjibjgokloondaaGreatDoorParN
import Derived.Test.YtjibjgokloondaaGreatDoorRows
import Derived.Stop.LaidErr
import Derived.Lib.LaidTab
import Derived.ProofKit
import Derived.Test.YtjibjgokloondaaGreatDoorTie
import Derived.Test.YtjibjgokloondaaGreatDoorCards
import Derived.SevenTiedAt
import Derived.LaidMore
import Derived.Stop.Joined
import Derived.HandedShaped
import Derived.OpenShut
import Derived.ShutString
import Derived.Lay
import Derived.Test.YtjibjgokloondaaGreatDoorParS
import Derived.Test.YtjibjgokloondaaGreatDoorParA
import Derived.Test.YtjibjgokloondaaGreatDoorParB
import Derived.Test.YtjibjgokloondaaGreatDoorParC
import Derived.Test.YtjibjgokloondaaGreatDoorParD
import Derived.Test.YtjibjgokloondaaGreatDoorParE
import Derived.Test.YtjibjgokloondaaGreatDoorParF
import Derived.Test.YtjibjgokloondaaGreatDoorParG
import Derived.Test.YtjibjgokloondaaGreatDoorParH
import Derived.Test.YtjibjgokloondaaGreatDoorParI
import Derived.Test.YtjibjgokloondaaGreatDoorParJ
import Derived.Test.YtjibjgokloondaaGreatDoorParK
import Derived.Test.YtjibjgokloondaaGreatDoorParL
import Derived.Test.YtjibjgokloondaaGreatDoorParM
import Derived.Test.YtjibjgokloondaaGreatDoorParO
import Derived.Test.YtjibjgokloondaaGreatDoorParP
import Derived.Test.YtjibjgokloondaaGreatDoorParQ
import Derived.Test.YtjibjgokloondaaGreatDoorParR
import Derived.Test.YtjibjgokloondaaGreatDoorParT
import Derived.Test.YtjibjgokloondaaGreatDoorParU
import Derived.Test.YtjibjgokloondaaGreatDoorParV
import Derived.Test.YtjibjgokloondaaGreatDoorParW
namespace Go.Proofs.YtjibjgokloondaaGreatDoor
open Go.RowKit Go.Lib
set_option linter.unusedVariables false

/-- A number below another one. -/
def PNum (b : Nat) (w : World) (e : Ending) (w' : World) : Prop := ∃ r : Nat, r < b ∧ e = .returned (.int .i64 r) ∧ w = w'
set_option maxHeartbeats 1000000 in
theorem wnumber_c (n : Int) (b : Nat) (w : World) (hn0 : -9223372036854775808 ≤ n) (hn1 : n ≤ 9223372036854775807) (hb0 : 0 < b) (hb1 : b ≤ 1000000) :
    Calls Tryz.prog 8 #[.int .i64 n, .int .i64 b] w (PNum b w) := by
  have ht1 : Int.tmod n b < b := Int.tmod_lt_of_pos n (by omega)
  have ht0 : -(b : Int) < Int.tmod n b := by
    by_cases h : 0 ≤ n
    · have := Int.tmod_nonneg (b : Int) h; omega
    · have h1 := Int.tmod_lt_of_pos (-n) (show (0 : Int) < (b : Int) by omega)
      rw [Int.neg_tmod] at h1; omega
  have hbz : ((b : Int) == 0) = false := (bne_of (by omega)).2
  by_cases hneg : Int.tmod n b < 0
  · have hd : decide (Int.tmod n b < 0) = true := decide_eq_true hneg
    go_enter Tryz.func8, Tryz.ntmps8
    go_wp2_with fail
    go_ret
    exact ⟨(Int.tmod n b + b).toNat, by omega, ret_int (by omega), rfl⟩
  · have hd : decide (Int.tmod n b < 0) = false := decide_eq_false hneg
    go_enter Tryz.func8, Tryz.ntmps8
    go_wp2_with fail
    go_ret
    exact ⟨(Int.tmod n b).toNat, by omega, ret_int (by omega), rfl⟩
end Go.Proofs.YtjibjgokloondaaGreatDoor
namespace Go.Proofs.YtjibjgokloondaaGreatDoor
open Go.RowKit Go.Lib
set_option linter.unusedVariables false

theorem bsize_list (b : ByteArray) : b.size = b.data.toList.length := by rw [Array.length_toList]; rfl
theorem br_size (i : Nat) : (brT i).length = i + (i + 1) := by simp [brT]
theorem br_next {p : ByteArray} {i : Nat} (h : p.data.toList = brT i) : ((⟨#[40]⟩ : ByteArray) ++ p ++ (⟨#[41]⟩ : ByteArray)).data.toList = brT (i + 1) := by
  rw [ByteArray.data_append, ByteArray.data_append, Array.toList_append, Array.toList_append, h]
  unfold brT
  show [40] ++ (List.replicate i 40 ++ 49 :: List.replicate i 41) ++ [41] = _
  rw [List.replicate_succ, show List.replicate (i + 1) (41 : UInt8) = List.replicate i 41 ++ [41] from List.replicate_succ']
  simp
theorem br_text {p : ByteArray} {i : Nat} (h : p.data.toList = brT i) : p = ⟨(brT i).toArray⟩ := by
  cases p with
  | mk d => congr 1; rw [← h]
theorem brL_len (n : Nat) : (brL n).length = 2 * n + 1 := by simp [brL]; omega

set_option maxRecDepth 100000 in
set_option maxHeartbeats 8000000 in
theorem parseDeep_c (i : Int) (ea : Nat → Addr) (w : World) (ha0 : -9223372036854775808 ≤ i) (ha1 : i ≤ 9223372036854775807) (hse : SeesAt w ea) (hst : StrcAt w) (hsp : SpaceAt w) :
    Calls Tryz.prog 6 #[.int .i64 i] w fun e w' => e = .returned (.bool true) ∧ Below w.heap.size w w' := by
  have he : LxEnv w ea := ⟨hse.errs, hsp, hst⟩
  have hroom := hse.room
  have F := Lib.hid (pfirst_c ea w he)
  have EV := Lib.hid (fun W (hW : Below w.heap.size w W) => he.below hW (by omega))
  have SV := Lib.hid (fun W (hW : Below w.heap.size w W) => hse.below hW)
  have NC := Lib.hid (fun W => wnumber_c i 400 W ha0 ha1 (by decide) (by decide))
  clear he hse hst hsp
  go_enter Tryz.func6, Tryz.ntmps6
  go_wp2_with fail
  refine F.out.mono ?_
  rintro e w2 ⟨rfl, hb2⟩
  have HB2 := Lib.hid hb2
  clear hb2
  go_wp2_with fail
  refine (NC.out w2).mono ?_
  rintro e w3 ⟨L, hL, rfl, rfl⟩
  go_wp2_with fail
  go_loopg [4, 5] L (fun kk pv iv wr => ∃ (p : ByteArray) (i : Nat), pv = .string p ∧ iv = .int .i64 (i : Int) ∧ i + kk = L ∧ w2 = wr ∧ Hid (p.data.toList = brT i))
  case atStart => exact ⟨⟨#[49]⟩, 0, rfl, rfl, by omega, rfl, rfl⟩
  case round =>
    obtain ⟨p, i, rfl, rfl, hk, rfl, hp⟩ := hrel
    by_cases hi : i < L
    · obtain ⟨kk, rfl⟩ : ∃ kk, gk = kk + 1 := ⟨gk - 1, by omega⟩
      have HP := Lib.hid (br_next hp.out)
      have hpz : p.size ≤ 1000 := by rw [bsize_list, hp.out, br_size]; omega
      clear hp
      go_wp2_with fail
      go_roundg kk
      case measure => omega
      case rel => exact ⟨_, i + 1, rfl, by go_num, by omega, rfl, HP.out⟩
    · obtain rfl : i = L := by omega
      have hpt := br_text hp.out
      have hpz : p.size = i + (i + 1) := by rw [bsize_list, hp.out, br_size]
      obtain ⟨x, q, hpr, hgd⟩ := prs_br i i 0 0 (12 * i + 12) (by omega) (by omega) (by omega) (by omega)
      have hall : allW p = .inr (brL i) := by rw [hpt]; exact br_all i
      have hbl := brL_len i
      by_cases h160 : i ≤ 160
      · rw [if_pos (by omega)] at hpr
        obtain ⟨rfl, hq⟩ := hgd (by omega)
        have hE : (exprS (brL i) ⟨q, 0, none⟩).err = none := by unfold exprS; rw [if_neg (by show ¬ q < _; omega)]
        have PG := Lib.hid (fun W (hW : Below w.heap.size w W) => pexpr_good p (brL i) (12 * i + 12) _ _ ea W (EV.out W hW) (by omega) hall (by omega) (by omega) (by omega) hpr hE (by decide +kernel) (by simp [nd, NL.fit, NL.len, VL.len, VL.fit, ByteArray.size]))
        clear hp hk hpt hpr hgd hall hbl hE hq
        go_wp2_with fail
        refine (PG.out w2 HB2.out).mono ?_
        rintro e w3 ⟨op, ln, s, k, m, t, va, vc, V, sub, hn, rfl, ho, hb⟩
        unfold nd at hn
        simp only [NL.cons.injEq, and_true, true_and] at hn
        obtain ⟨rfl, rfl, rfl, rfl, rfl, rfl, rfl⟩ := hn
        obtain ⟨A, c, rfl⟩ := ho.form
        have HB3 := Lib.hid (HB2.out.trans (below_le' hb HB2.out.size))
        clear ho hb
        unfold nd8
        by_cases h100 : i ≤ 100
        · have hi100 : (i : Int) ≤ 100 := by omega
          go_wp2_with fail
          go_ret
          exact ⟨rfl, HB3.out.alloc (by have := HB3.out.size; omega) _⟩
        · have hi100 : ¬ (i : Int) ≤ 100 := by omega
          have hi160 : ¬ 160 < (i : Int) := by omega
          go_wp2_with fail
          go_ret
          exact ⟨rfl, HB3.out.alloc (by have := HB3.out.size; omega) _⟩
      · rw [if_neg (by omega)] at hpr
        have hE : (exprS (brL i) ⟨q, 0, some none⟩).err = some none := by
          unfold exprS
          by_cases hq : (⟨q, 0, some none⟩ : PS).pos < (brL i).length
          · rw [if_pos hq, failS_some rfl]
          · rw [if_neg hq]
        have PB := Lib.hid (fun W (hW : Below w.heap.size w W) => pexpr_bad p (brL i) (12 * i + 12) _ _ ea W (EV.out W hW) (by omega) hall (by omega) (by omega) (by omega) hpr none hE)
        have hi100 : ¬ (i : Int) ≤ 100 := by omega
        have hi160 : 160 < (i : Int) := by omega
        clear hp hk hpt hpr hgd hall hbl hE
        go_wp2_with fail
        refine (PB.out w2 HB2.out).mono ?_
        rintro e w3 ⟨ev, rfl, hb, rfl⟩
        have HB3 := Lib.hid (HB2.out.trans (below_le' hb HB2.out.size))
        have FB := Lib.hid (fun W (hW : Below w.heap.size w W) => (fault_bare ea 11 W (SV.out W hW) (by decide)))
        clear hb
        go_wp2_with fail
        have HB4 := Lib.hid (fun o => show Below w.heap.size w (w3.alloc o) from HB3.out.alloc HB3.out.size _)
        refine (FB.out _ (HB4.out _)).mono ?_
        rintro e w4 ⟨rfl, hb4⟩
        have HB5 := Lib.hid ((HB4.out _).trans (below_le' hb4 (HB4.out _).size))
        unfold fltV
        have hfld : ∀ W : World, (Instr.field 41 (.agg #[.int .i64 112, .bool false, .int .i64 0, .int .i64 0, .int .i64 0, .string ⟨#[]⟩, .slice none 0 0]) 0).run Tryz.prog W = .ok (.int .i64 112) W := fun W => by kernel_rfl
        clear hb4
        go_wp2_with fail
        go_ret
        exact ⟨rfl, HB5.out⟩
end Go.Proofs.YtjibjgokloondaaGreatDoor
namespace Go.Proofs.YtjibjgokloondaaGreatDoor
open Go.RowKit Go.Lib
set_option linter.unusedVariables false

theorem star_err : "*" ++ "errors.errorString" = "*errors.errorString" := by decide
theorem row_err (u : TypeId) (h : Tryz.prog.typeName? 3 u = some "*errors.errorString") : u = 204 :=
  typeName_ptr_named (nm := "errors.errorString") (by rw [star_err]; kernel_rfl) (by kernel_rfl) (by decide) u (by rw [star_err]; exact h)
/-- A sentinel that heads the list: its variable's cell. -/
theorem sent_at {n : String} {text : List UInt8} {r : List (String × DataW Unit)} {W : World} (g : Nat) (h : laidMet Tryz.prog ((n, .iface "*errors.errorString" (.ptr (.agg [.lit (.string text)]))) :: r) W)
    (hg : Tryz.prog.globalNamed n = some g) (ht : (Tryz.prog.globals[g]?).map (·.type) = some 33) : ∃ a : Addr, W.cell? ⟨g, 0, none⟩ = some (.iface 204 (.pointer (some a))) := by
  obtain ⟨a, s, hv, _⟩ := laid_sentinel h hg ht Tryz.underlying33 row_err Tryz.underlying204 Tryz.underlying206 rfl rfl Tryz.underlying9 (by kernel_rfl) (by kernel_rfl)
  exact ⟨a, by simpa using World.var?_cell hg hv 0⟩
end Go.Proofs.YtjibjgokloondaaGreatDoor
namespace Go.Proofs.YtjibjgokloondaaGreatDoor
open Go.ChangeShapes Go.WideShapes Go.ChangeAt Go.RowKit Go.Lib
open Go.ChangeMaps (open_string shut_string)
set_option linter.unusedVariables false

theorem own_knob : ownKnob Tryz.prog.godebug = none := by kernel_rfl

/-- The kit's wrap with a condition, the world's shape kept. -/
theorem handed_and_shaped {H : Type} {enc : TypeId × Value → H} {a : Assume} {C : Checked} {os : Os} {f : FuncId} {fn : Func} {s : ChangeSpec} {conds : List PathCond} {apart fresh handsOn again : Bool} {X : World → Array Value → Prop}
    (hX : ∀ (w w' : World) (args : Array Value), w.heap = w'.heap → X w args → X w' args)
    (own : ownKnob C.prog.godebug = none) (started : os.Started) (noInit : C.prog.inits.idxOf? f = none) (hfn : C.prog.funcs[f]? = some fn)
    (witness : ∃ (w : World) (tape : Tape) (i : Input), w.os = os ∧ (w.forCall tape i).Shaped C.prog ∧ i.vars = [] ∧ Input.okWide C.prog (w.forCall tape i) .any w.heap.size f i ∧
      ((s.pre enc C.prog fn conds apart (w.forCall tape i).memory i.args ∧ X (w.forCall tape i).memory i.args) ∧ sizedMet enc C.prog fn (OpenSpec.ofChange s) apart (w.forCall tape i).memory i.args) ∧ a.holds C.prog (lone (Frame.enter C.prog f i.args .normal) [] (w.forCall tape i)))
    (contract : ∀ (W : World) (base : Nat) (args : Array Value) (ds gs : List (DataW H)) (before : List MemPlace),
      (∀ (j : Nat) t v, fn.params[j]? = some t → args[j]? = some v → Value.okWide C.prog W .any base t v) →
      DataW.Whole enc C.prog fn.params.toList s.vars apart W args.toList ds gs before →
      (DataW.weightsEach C.prog (fn.params.toList ++ s.plain.varTypes C.prog) (ds ++ gs)).all (· ≤ reachBytes) = true → X W args → W.ShapedOpen C.prog →
      Calls C.prog f args W fun e W' => ∃ v, e = .returned v ∧ s.post enc C.prog fn apart fresh handsOn again W args v W') :
    ReturnsInHanded a C os f .any (fun w args => (s.pre enc C.prog fn conds apart w args ∧ X w args) ∧ sizedMet enc C.prog fn (OpenSpec.ofChange s) apart w args) (s.post enc C.prog fn apart fresh handsOn again) := by
  refine returnsInHanded_of_calls own started noInit witness ?_
  intro w tape i _ hsh _ hok hpre hholds
  obtain ⟨_, _, _, fn', hfn', _, _, _, _, hval⟩ := hok
  have e : fn' = fn := Option.some.inj (hfn'.symm.trans hfn)
  subst e
  obtain ⟨⟨⟨ds, gs, before, hw, hc⟩, hx⟩, hz⟩ := hpre
  have hw' := DataW.Whole.of_heap (w' := w.forCall tape i) (by rfl) hw
  refine (contract (w.forCall tape i) w.heap.size i.args ds gs before hval hw' (hz.weights hw) (hX _ _ _ (by rfl) hx) hsh).mono fun e W' ⟨v, he, hp⟩ => ?_
  subst he
  exact ChangeSpec.post_blind hp

theorem i64_range {a : Int} (h : (Lit.int .i64 a).wf = true) : -9223372036854775808 ≤ a ∧ a ≤ 9223372036854775807 := by
  have e1 : IntKind.i64.min = -9223372036854775808 := by decide
  have e2 : IntKind.i64.max = 9223372036854775807 := by decide
  simp [Lit.wf] at h
  omega
theorem room_of {W : World} (h : W.ShapedOpen Tryz.prog) : 24 < W.heap.size := by
  have hsome : (((begin Tryz.prog (fun _ _ => 0) default).world.heap[24]?).bind Obj.row?).isSome = true := by kernel_rfl
  obtain ⟨⟨z, t⟩, hz⟩ := Option.isSome_iff_exists.1 hsome
  have hn : Tryz.prog.globals.size = 25 := by kernel_rfl
  obtain ⟨cs, hc, _⟩ := h.1 24 z t (by rw [hn]; decide) hz
  rcases Nat.lt_or_ge 24 W.heap.size with hlt | hge
  · exact hlt
  · rw [Array.getElem?_eq_none hge] at hc; cases hc

end Go.Proofs.YtjibjgokloondaaGreatDoor
namespace Go.Proofs.YtjibjgokloondaaGreatDoor
open Go.RowKit Go.Lib Go.ChangeShapes Go.WideShapes
set_option linter.unusedVariables false

/-- The variables that hold these errors. -/
def AllSent (W : World) : List (String × Nat) → List Addr → Prop
  | [], [] => True
  | x :: l, a :: bs => W.cell? ⟨x.2, 0, none⟩ = some (.iface 204 (.pointer (some a))) ∧ (∃ c t, W.heap[a.block]? = some (.cells c t (0, 0))) ∧ AllSent W l bs
  | [], _ :: _ => False
  | _ :: _, [] => False
theorem AllSent.len {W : World} : ∀ {l : List (String × Nat)} {bs : List Addr}, AllSent W l bs → bs.length = l.length
  | [], [], _ => rfl
  | x :: l, a :: bs, h => by rw [List.length_cons, List.length_cons, AllSent.len h.2.2]
  | [], _ :: _, h => h.elim
  | _ :: _, [], h => h.elim
theorem AllSent.get {W : World} : ∀ {l : List (String × Nat)} {bs : List Addr} (k : Nat), AllSent W l bs → k < l.length →
    W.cell? ⟨(l.getD k ("", 0)).2, 0, none⟩ = some (.iface 204 (.pointer (some (bs.getD k ⟨0, 0, none⟩)))) ∧ ∃ c t, W.heap[(bs.getD k ⟨0, 0, none⟩).block]? = some (.cells c t (0, 0))
  | [], [], k, _, hk => absurd hk (Nat.not_lt_zero _)
  | x :: l, a :: bs, 0, h, _ => ⟨h.1, h.2.1⟩
  | x :: l, a :: bs, k + 1, h, hk => by
    rw [List.getD_cons_succ, List.getD_cons_succ]
    exact AllSent.get k h.2.2 (by rw [List.length_cons] at hk; omega)
  | [], _ :: _, _, h, _ => h.elim
  | _ :: _, [], _, h, _ => h.elim

set_option maxRecDepth 100000 in
theorem sents_of {W : World} : ∀ (l : List (String × DataW Unit × Nat)) (rest : List (String × DataW Unit)) (ps : List MemPlace), DataW.LaidVars Tryz.prog W ((l.map fun x => (x.1, x.2.1)) ++ rest) ps →
    (∀ x ∈ l, (∃ t, x.2.1 = .iface "*errors.errorString" (.ptr (.agg [.lit (.string t)]))) ∧ Tryz.prog.globalNamed x.1 = some x.2.2 ∧ (Tryz.prog.globals[x.2.2]?).map (·.type) = some 33) →
    (∀ b off, MemPlace.cell b off ∈ ps → (∃ c t, W.heap[b]? = some (.cells c t (0, 0))) ∧ ∀ u v, W.cell? ⟨b, off, none⟩ = some (.iface u v) → Value.okWide Tryz.prog W .any 0 u v) →
    ∃ bs : List Addr, AllSent W (l.map fun x => (x.1, x.2.2)) bs ∧ List.Sublist (bs.map fun a => MemPlace.cell a.block a.off) ps
  | [], rest, ps, _, _, _ => ⟨[], trivial, List.nil_sublist _⟩
  | x :: l, rest, ps, h, hl, hrows => by
    obtain ⟨⟨text, hx⟩, hg, ht⟩ := hl x (by simp)
    obtain ⟨n, d, g⟩ := x
    simp only at hx hg ht
    subst hx
    obtain ⟨g0, t0, cs0, f0, p0, q0, hg0, ht0, hv0, hd0, hrest, e0⟩ := h
    obtain rfl := Option.some.inj (hg.symm.trans hg0)
    obtain rfl := Option.some.inj (ht.symm.trans ht0)
    subst e0
    obtain ⟨l0⟩ := cs0
    have ok0 : ∀ u v, l0 = [.iface u v] → Value.okWide Tryz.prog W .any 0 u v := fun u v e => by
      subst e
      exact (hrows g 0 (by simp [MemPlace.row])).2 u v (by simpa using World.var?_cell hg0 hv0 0)
    obtain ⟨a, s, rfl, hc0, hs0, hz0, rfl⟩ := errorString_of_trod Tryz.underlying33 row_err Tryz.underlying204 Tryz.underlying206 rfl rfl Tryz.underlying9 (by kernel_rfl) (by kernel_rfl) hd0 ok0
    obtain ⟨bs, has, hsub⟩ := sents_of l rest q0 hrest (fun x hx => hl x (by simp [hx])) (fun b off hb => hrows b off (by simp [hb]))
    refine ⟨a :: bs, ⟨by simpa using World.var?_cell hg0 hv0 0, (hrows a.block a.off (by simp [MemPlace.row])).1, has⟩, ?_⟩
    have e1 : MemPlace.row a 1 = [MemPlace.cell a.block a.off] := by simp [MemPlace.row]
    rw [e1, List.map_cons, List.append_assoc]
    exact (List.Sublist.cons_cons _ hsub).trans (List.sublist_append_right _ _)

/-- All of api's errors lie in places of their own. -/
theorem sees_of {W : World} (l : List (String × DataW Unit × Nat)) (rest : List (String × DataW Unit)) (h : laidMet Tryz.prog ((l.map fun x => (x.1, x.2.1)) ++ rest) W) (hG : l.map (fun x => x.2.2) = seeG)
    (hl : ∀ x ∈ l, (∃ t, x.2.1 = .iface "*errors.errorString" (.ptr (.agg [.lit (.string t)]))) ∧ Tryz.prog.globalNamed x.1 = some x.2.2 ∧ (Tryz.prog.globals[x.2.2]?).map (·.type) = some 33) (hr : 24 < W.heap.size) : ∃ ea, SeesAt W ea := by
  obtain ⟨ps, hv, hnd, hrows⟩ := h
  obtain ⟨bs, has, hsub⟩ := sents_of l rest ps hv hl hrows
  have hlen : l.length = 17 := by have := congrArg List.length hG; rw [List.length_map] at this; exact this
  have hal := has.len
  rw [List.length_map, hlen] at hal
  have hk : ∀ k, k < 17 → ((l.map fun x => (x.1, x.2.2)).getD k ("", 0)).2 = seeG.getD k 0 := by
    intro k hk
    rw [← hG]
    simp only [List.getD_eq_getElem?_getD, List.getElem?_map]
    rw [List.getElem?_eq_getElem (by omega)]; rfl
  have he : ∀ k, 101 + k - 101 = k := fun k => by omega
  refine ⟨fun k => bs.getD (k - 101) ⟨0, 0, none⟩, fun k h17 => ?_, fun k h17 => ?_, fun i j hi hj e => ?_, hr⟩
  · rw [← hk k h17]
    simp only [he]
    exact (has.get k (by rw [List.length_map, hlen]; exact h17)).1
  · simp only [he]
    exact (has.get k (by rw [List.length_map, hlen]; exact h17)).2
  · simp only [he] at e
    have hnd2 := hnd.sublist hsub
    rw [List.Nodup, List.pairwise_iff_getElem] at hnd2
    rw [List.getD_eq_getElem?_getD, List.getD_eq_getElem?_getD, List.getElem?_eq_getElem (by omega), List.getElem?_eq_getElem (by omega)] at e
    simp only [Option.getD_some] at e
    rcases Nat.lt_trichotomy i j with hij | hij | hij
    · exact absurd (by rw [List.getElem_map, List.getElem_map, e]) (hnd2 i j (by rw [List.length_map]; omega) (by rw [List.length_map]; omega) hij)
    · exact hij
    · exact absurd (by rw [List.getElem_map, List.getElem_map, e]) (hnd2 j i (by rw [List.length_map]; omega) (by rw [List.length_map]; omega) hij)
end Go.Proofs.YtjibjgokloondaaGreatDoor
