/- Contracts of the functions that the statement reaches, and the plain mathematics beneath: several texts joined. -/
import Derived.Test.YtbalpfpcbckghaaGreatDoorFtxAM
namespace Go.Proofs.YtbalpfpcbckghaaGreatDoor
open Go.RowKit Go.Lib
set_option linter.unusedVariables false

def sumW (ws : List (List UInt8)) : Nat := (ws.map (fun x => x.length + 1)).sum
theorem sumW_cons (x : List UInt8) (r : List (List UInt8)) : sumW (x :: r) = x.length + 1 + sumW r := by unfold sumW; rw [List.map_cons, List.sum_cons]
theorem strV_fit : ∀ (ws : List (List UInt8)), (∀ x ∈ ws, x.length ≤ 100000) → (strV ws).fit
  | [], _ => trivial
  | x :: r, h => by
    refine ⟨?_, Nat.zero_le _, trivial, strV_fit r (fun y hy => h y (List.mem_cons_of_mem _ hy))⟩
    rw [ba_size]; have := h x (List.mem_cons_self ..); omega
theorem strV_cost : ∀ (ws : List (List UInt8)), cost (strV ws) = sumW ws
  | [] => rfl
  | x :: r => by
    rw [strV, cost, strV_cost r, sumW_cons]
    have : mOf 2 ⟨x.toArray⟩ = (x.length : Int) := by show ((⟨x.toArray⟩ : ByteArray).size : Int) = _; rw [ba_size]
    rw [this, cost]; omega
theorem strV_walk : ∀ (ws : List (List UInt8)) (left : Int), (∀ x ∈ ws, prB x = true) → (sumW ws : Int) ≤ left → (walkL (strV ws) 2 left).1 = 0
  | [], left, _, _ => rfl
  | x :: r, left, h, hl => by
    rw [sumW_cons] at hl
    have hm : mOf 2 ⟨x.toArray⟩ = (x.length : Int) := by show ((⟨x.toArray⟩ : ByteArray).size : Int) = _; rw [ba_size]
    have ho : ownE 2 0 ⟨x.toArray⟩ VL.nil.len = 0 := by
      rcases str_cases (n := 0) (s := ⟨x.toArray⟩) (len := VL.nil.len) with ⟨_, h1 | ⟨_, h1⟩⟩ | ⟨_, _, _, h1⟩ | ⟨h1, _⟩
      · exact absurd rfl h1
      · exact absurd h1 (Nat.lt_irrefl _)
      · rw [toList_mk, h x (List.mem_cons_self ..)] at h1; cases h1
      · exact h1
    have hw : walk1 2 0 ⟨x.toArray⟩ .nil 2 left = (0, left - (1 + (x.length : Int))) := by
      unfold walk1
      rw [if_neg (by decide), hm, if_neg (by omega), if_pos ho]; rfl
    rw [strV, walkL_cons, hw, if_pos rfl]
    exact strV_walk r _ (fun y hy => h y (List.mem_cons_of_mem _ hy)) (by omega)
theorem strV_right (ws : List (List UInt8)) (h : ∀ x ∈ ws, prB x = true) (hs : sumW ws ≤ 4000) : (walk1 4 0 ⟨#[]⟩ (strV ws) 1 4096).1 = 0 := by
  have ho : ownE 4 0 ⟨#[]⟩ (strV ws).len = 0 := by
    unfold ownE
    rw [if_neg (by decide), if_neg (by rintro ⟨h, _⟩; cases h), if_neg (by rintro ⟨h, _⟩; cases h), if_neg, if_neg (by decide)]
    rintro (⟨_, h⟩ | ⟨h, _⟩ | ⟨_, h⟩)
    · exact h rfl
    · exact h rfl
    · exact h rfl
  unfold walk1
  rw [if_neg (by decide), show mOf 4 ⟨#[]⟩ = 0 from rfl, if_neg (by decide), if_pos ho]
  exact strV_walk ws _ h (by omega)
theorem prB_appF (a b : List UInt8) (ha : prB a = true) (hb : prB b = true) : prB (a ++ b) = true := by
  unfold prB at *
  rw [List.all_append, ha, hb]; rfl
theorem joinW_print : ∀ (ws : List (List UInt8)), (∀ x ∈ ws, prB x = true) → prB (joinW ws) = true
  | [], _ => rfl
  | [x], h => h x (List.mem_cons_self ..)
  | x :: y :: r, h => by
    rw [joinW]
    refine prB_appF _ _ (h x (List.mem_cons_self ..)) ?_
    have := joinW_print (y :: r) (fun z hz => h z (List.mem_cons_of_mem _ hz))
    unfold prB at *
    rw [List.all_cons, this]; rfl
theorem joinW_len : ∀ (ws : List (List UInt8)), (joinW ws).length ≤ sumW ws
  | [] => Nat.le_refl _
  | [x] => by rw [joinW, sumW_cons]; omega
  | x :: y :: r => by
    have := joinW_len (y :: r)
    rw [joinW, sumW_cons]
    simp only [List.length_append, List.length_cons]
    omega
theorem itoa_pr (n : Int) : prB (itoa n) = true := itoa_print n
theorem num_walk (n : Int) : (walk1 0 n ⟨#[]⟩ .nil 1 4096).1 = 0 := by
  unfold walk1
  rw [if_neg (by decide), show mOf 0 ⟨#[]⟩ = 0 from rfl, if_neg (by decide), if_pos]
  · rfl
  · unfold ownE
    rw [if_neg (by decide), if_neg (by rintro ⟨h, _⟩; cases h), if_neg (by rintro ⟨h, _⟩; cases h), if_neg, if_neg (by decide)]
    rintro (⟨_, h⟩ | ⟨_, h⟩ | ⟨h | h, _⟩)
    · exact h rfl
    · exact absurd h (Nat.lt_irrefl _)
    · cases h
    · cases h
theorem num_txt (n : Int) : txtV 0 n ⟨#[]⟩ .nil = ⟨(itoa n).toArray⟩ := by unfold txtV; rw [if_pos (num_walk n)]; rfl
theorem numV_itoa {n : Int} (h0 : -9223372036854775808 ≤ n) (h1 : n ≤ 9223372036854775807) : numV ⟨(itoa n).toArray⟩ = n := by
  unfold numV
  rw [toList_mk, refNum_itoa h0 h1]; rfl
theorem num_pln (n : Int) : plnV 0 n ⟨#[]⟩ .nil = ⟨(itoa n).toArray⟩ := by
  unfold plnV
  rw [if_pos (num_walk n)]; rfl
theorem str_pln : plnV 2 0 ⟨#[120]⟩ .nil = ⟨#[120]⟩ := by
  unfold plnV
  rw [if_pos (walk_strF _ (by decide) (by decide))]; rfl

theorem callAbs (n : Int) (A : Option Addr) (c : Nat) (ea : Nat → Addr) (w : World) (he : FnEnv w) (hea : ErrsAt w ea) (hc : 1 ≤ c) (hrep : RpL w (fun b => b < w.heap.size) (.cons 0 n ⟨#[]⟩ .nil .nil) A) :
    Calls Tryz.prog 14 #[.string ⟨#[97, 98, 115]⟩, .slice A 1 c] w (PValC w 0 (absP n) ⟨#[]⟩ .nil 0) :=
  Call_good ⟨#[97, 98, 115]⟩ (.cons 0 n ⟨#[]⟩ .nil .nil) A c 0 (absP n) ⟨#[]⟩ .nil ea w he hea hc (by show 1 ≤ 100000; decide) hrep abs_facts.1
    (by rw [show (⟨#[97, 98, 115]⟩ : ByteArray).data.toList = [97, 98, 115] from rfl, fits_of abs_facts.2.1 abs_facts.2.2.1 (by show ¬ ((1 : Nat) : Int) < 1; decide) (by show ¬ (0 ≤ (1 : Int) ∧ (1 : Int) < ((1 : Nat) : Int)); decide)]; exact kinds_1 105 0 n _ _ rfl [])
    (by decide) (by decide) trivial (by decide) (num_walk _)
    (fun W hW hr => call_abs n ⟨#[]⟩ .nil .nil A c W hc (Nat.zero_le _) hr _ rfl)
theorem callToint (n : Int) (A : Option Addr) (c : Nat) (ea : Nat → Addr) (w : World) (he : FnEnv w) (hea : ErrsAt w ea) (hst : StrcAt w) (hn0 : -9223372036854775808 ≤ n) (hn1 : n ≤ 9223372036854775807) (hc : 1 ≤ c) (hrep : RpL w (fun b => b < w.heap.size) (.cons 2 0 ⟨(itoa n).toArray⟩ .nil .nil) A) :
    Calls Tryz.prog 14 #[.string ⟨#[116, 111, 105, 110, 116]⟩, .slice A 1 c] w (PValC w 0 n ⟨#[]⟩ .nil 0) :=
  Call_good ⟨#[116, 111, 105, 110, 116]⟩ (.cons 2 0 ⟨(itoa n).toArray⟩ .nil .nil) A c 0 n ⟨#[]⟩ .nil ea w he hea hc (by show 1 ≤ 100000; decide) hrep toint_facts.1
    (by rw [show (⟨#[116, 111, 105, 110, 116]⟩ : ByteArray).data.toList = [116, 111, 105, 110, 116] from rfl, fits_of toint_facts.2.1 toint_facts.2.2.1 (by show ¬ ((1 : Nat) : Int) < 1; decide) (by show ¬ (0 ≤ (1 : Int) ∧ (1 : Int) < ((1 : Nat) : Int)); decide), toint_facts.2.2.2]; exact kinds_v _ _)
    (by decide) (by decide) trivial (by decide) (num_walk _)
    (fun W hW hr => by
      have := call_toint ⟨(itoa n).toArray⟩ .nil .nil A c W (hst.below hW (Nat.le_refl _)) (by rw [ba_size]; have := itoa_len hn0 hn1; omega) hc (Nat.zero_le _) hr ⟨#[116, 111, 105, 110, 116]⟩ rfl
      rw [numV_itoa hn0 hn1] at this
      exact this)
theorem callTostr (n : Int) (A : Option Addr) (c : Nat) (ea : Nat → Addr) (w : World) (he : FnEnv w) (hea : ErrsAt w ea) (htx : TxAt w) (hn0 : -9223372036854775808 ≤ n) (hn1 : n ≤ 9223372036854775807) (hc : 2 ≤ c) (hrep : RpL w (fun b => b < w.heap.size) (.cons 0 n ⟨#[]⟩ .nil (.cons 2 0 ⟨#[120]⟩ .nil .nil)) A) :
    Calls Tryz.prog 14 #[.string ⟨#[116, 111, 115, 116, 114]⟩, .slice A 2 c] w (PValC w 2 0 ⟨(itoa n ++ [120]).toArray⟩ .nil 0) := by
  have hl := itoa_len hn0 hn1
  have hz : (⟨(itoa n ++ [120]).toArray⟩ : ByteArray).size = (itoa n).length + 1 := by rw [ba_size]; simp
  have hp : prB (itoa n ++ [120]) = true := prB_appF _ _ (itoa_pr n) rfl
  have hj : joinS [] true (plnsV (.cons 0 n ⟨#[]⟩ .nil (.cons 2 0 ⟨#[120]⟩ .nil .nil))) [] = some (itoa n ++ [120]) := by
    simp only [plnsV, num_pln, str_pln]
    rw [joinS, if_neg (by simp; omega), List.nil_append, joinS, if_neg (by show ¬ 4096 ≤ 0 + _; omega), if_neg (by show ¬ 4096 ≤ 1 + (itoa n ++ []).length; simp; omega), joinS]
    simp
  refine Call_good ⟨#[116, 111, 115, 116, 114]⟩ (.cons 0 n ⟨#[]⟩ .nil (.cons 2 0 ⟨#[120]⟩ .nil .nil)) A c 2 0 ⟨(itoa n ++ [120]).toArray⟩ .nil ea w he hea hc (by show 2 ≤ 100000; decide) hrep tostr_facts.1
    (by rw [show (⟨#[116, 111, 115, 116, 114]⟩ : ByteArray).data.toList = [116, 111, 115, 116, 114] from rfl, fits_of tostr_facts.2.1 tostr_facts.2.2.1 (by show ¬ ((2 : Nat) : Int) < 0; decide) (by rintro ⟨h, _⟩; exact absurd h (by decide)), tostr_facts.2.2.2]; exact kinds_v _ _)
    (by rw [hz]; omega) (by decide) trivial (by decide) (walk_strF _ (by rw [hz]; omega) (by rw [toList_mk]; exact hp)) (fun W hW hr => ?_)
  have := call_tostr (.cons 0 n ⟨#[]⟩ .nil (.cons 2 0 ⟨#[120]⟩ .nil .nil)) A c ea W (hea.below hW (by have := he.room; omega)) (htx.below hW (Nat.le_refl _)) ⟨by decide, Nat.zero_le _, trivial, by decide, Nat.zero_le _, trivial, trivial⟩ ⟨hn0, hn1, trivial, by decide, by decide, trivial, trivial⟩ hc (by show 2 ≤ 100000; decide) hr
    (fun x hx => by
      simp only [plnsV, num_pln, str_pln, List.mem_cons, List.not_mem_nil, or_false] at hx
      rcases hx with rfl | rfl
      · omega
      · decide) ⟨#[116, 111, 115, 116, 114]⟩ rfl
  rw [hj] at this
  exact this
theorem callJoin (ws : List (List UInt8)) (A : Option Addr) (c : Nat) (ea : Nat → Addr) (w : World) (he : FnEnv w) (hea : ErrsAt w ea) (hc : 1 ≤ c) (hpr : ∀ x ∈ ws, prB x = true) (hsum : sumW ws ≤ 4000) (hwl : ws.length ≤ 4000) (hx : ∀ x ∈ ws, x.length ≤ 4000) (hrep : RpL w (fun b => b < w.heap.size) (.cons 4 0 ⟨#[]⟩ (strV ws) .nil) A) :
    Calls Tryz.prog 14 #[.string ⟨#[106, 111, 105, 110]⟩, .slice A 1 c] w (PValC w 2 0 ⟨(joinW ws).toArray⟩ .nil 0) := by
  have hl := joinW_len ws
  have hj : joinS [32] true ws [] = some (joinW ws) := joinS_ok ws (by show sumW ws < 4096; omega)
  refine Call_good ⟨#[106, 111, 105, 110]⟩ (.cons 4 0 ⟨#[]⟩ (strV ws) .nil) A c 2 0 ⟨(joinW ws).toArray⟩ .nil ea w he hea hc (by show 1 ≤ 100000; decide) hrep join_facts.1
    (by rw [show (⟨#[106, 111, 105, 110]⟩ : ByteArray).data.toList = [106, 111, 105, 110] from rfl, fits_of join_facts.2.1 join_facts.2.2.1 (by show ¬ ((1 : Nat) : Int) < 1; decide) (by show ¬ (0 ≤ (2 : Int) ∧ (2 : Int) < ((1 : Nat) : Int)); decide), join_facts.2.2.2]; exact kinds_1 108 4 0 _ _ rfl _)
    (by rw [ba_size]; omega) (by decide) trivial (by decide) (walk_strF _ (by rw [ba_size]; omega) (by rw [toList_mk]; exact joinW_print ws hpr)) (fun W hW hr => ?_)
  have := call_join ws 0 ⟨#[]⟩ A c W hc (by have := hW.size; have := he.room; omega) (by omega) (fun x h => by have := hx x h; omega) hr ⟨#[106, 111, 105, 110]⟩ rfl
  rw [hj] at this
  exact this
theorem callWords (ws : List (List UInt8)) (A : Option Addr) (c : Nat) (ea : Nat → Addr) (w : World) (he : FnEnv w) (hea : ErrsAt w ea) (hc : 1 ≤ c) (hpr : ∀ x ∈ ws, prB x = true) (hg : ∀ x ∈ ws, (32 : UInt8) ∉ x ∧ x ≠ []) (hsum : sumW ws ≤ 4000) (hwl : ws.length ≤ 4000) (hx : ∀ x ∈ ws, x.length ≤ 4000) (hrep : RpL w (fun b => b < w.heap.size) (.cons 2 0 ⟨(joinW ws).toArray⟩ .nil .nil) A) :
    Calls Tryz.prog 14 #[.string ⟨#[119, 111, 114, 100, 115]⟩, .slice A 1 c] w (PValC w 4 0 ⟨#[]⟩ (strV ws) 0) := by
  have hl := joinW_len ws
  obtain ⟨p1, p2, p3⟩ := pieces_join ws hg
  refine Call_good ⟨#[119, 111, 114, 100, 115]⟩ (.cons 2 0 ⟨(joinW ws).toArray⟩ .nil .nil) A c 4 0 ⟨#[]⟩ (strV ws) ea w he hea hc (by show 1 ≤ 100000; decide) hrep words_facts.1
    (by rw [show (⟨#[119, 111, 114, 100, 115]⟩ : ByteArray).data.toList = [119, 111, 114, 100, 115] from rfl, fits_of words_facts.2.1 words_facts.2.2.1 (by show ¬ ((1 : Nat) : Int) < 1; decide) (by show ¬ (0 ≤ (1 : Int) ∧ (1 : Int) < ((1 : Nat) : Int)); decide), words_facts.2.2.2]; exact kinds_1 115 2 0 _ _ rfl _)
    (by decide) (by rw [strV_len]; omega) (strV_fit ws (fun x h => by have := hx x h; omega)) (by rw [strV_cost]; omega) (strV_right ws hpr hsum) (fun W hW hr => ?_)
  have := call_words ⟨(joinW ws).toArray⟩ 0 .nil .nil A c W (by rw [ba_size]; omega) ((he.below hW (by have := he.room; omega)).mx) (by have := hW.size; have := he.room; omega) p2 (by rw [p1]; split <;> first | exact Nat.zero_le _ | omega | (simp; done) | (simp; omega)) hc (Nat.zero_le _) hr ⟨#[119, 111, 114, 100, 115]⟩ rfl
  rw [p3] at this
  exact this
theorem callLit (k n : Int) (s : ByteArray) (sub : VL) (A : Option Addr) (c : Nat) (ea : Nat → Addr) (w : World) (he : FnEnv w) (hea : ErrsAt w ea) (hmd : MdAt w ea) (htx : TxAt w) (hfit : (val1 k n s sub).fit) (h64 : (val1 k n s sub).i64) (hr : rightB k n s sub = true) (hc : 1 ≤ c) (hrep : RpL w (fun b => b < w.heap.size) (.cons k n s sub .nil) A) :
    Calls Tryz.prog 14 #[.string ⟨#[116, 111, 108, 105, 116, 101, 114, 97, 108]⟩, .slice A 1 c] w fun e w' => ∃ (k1 n1 : Int) (S1 : ByteArray) (code : Int), PValC w k1 n1 S1 .nil code e w' ∧ ((txtV k n s sub).size < 4096 → S1 = txtV k n s sub ∧ code = 0) := by
  obtain ⟨hT1, hT2⟩ := ftxt_facts hr h64
  have hfits : fitsP [116, 111, 108, 105, 116, 101, 114, 97, 108] (.cons k n s sub .nil) = 0 := by
    rw [fits_of toliteral_facts.2.1 toliteral_facts.2.2.1 (by show ¬ ((1 : Nat) : Int) < 1; decide) (by show ¬ (0 ≤ (1 : Int) ∧ (1 : Int) < ((1 : Nat) : Int)); decide), toliteral_facts.2.2.2]; exact kinds_v _ _
  have hcall : ∀ W, Below w.heap.size w W → RpL W (fun b => b < W.heap.size) (.cons k n s sub .nil) A → Calls Tryz.prog 34 #[.string ⟨#[116, 111, 108, 105, 116, 101, 114, 97, 108]⟩, .slice A 1 c] W (PValC W 2 0 (txtV k n s sub) .nil 0) := fun W hW hr2 =>
    call_toliteral k n s sub .nil A c ea W (hea.below hW (by have := he.room; omega)) (htx.below hW (Nat.le_refl _)) hfit h64 hc (Nat.zero_le _) hr2 _ rfl
  by_cases hbig : (txtV k n s sub).size < 4096
  · refine (Call_good ⟨#[116, 111, 108, 105, 116, 101, 114, 97, 108]⟩ (.cons k n s sub .nil) A c 2 0 (txtV k n s sub) .nil ea w he hea hc (by show 1 ≤ 100000; decide) hrep toliteral_facts.1 hfits (by omega) (by decide) trivial (by decide) (walk_strF _ hbig hT2) hcall).mono fun e w' h => ?_
    exact ⟨2, 0, _, 0, h, fun _ => ⟨rfl, rfl⟩⟩
  · refine (Call_wrong ⟨#[116, 111, 108, 105, 116, 101, 114, 97, 108]⟩ (.cons k n s sub .nil) A c 2 0 (txtV k n s sub) .nil ea w he hea hc (by show 1 ≤ 100000; decide) hrep toliteral_facts.1 hfits (by omega) (by decide) trivial
      (fun W sa sc hW _ _ => rightM_c _ sa sc ea W (hea.below hW (by have := he.room; omega)) (hmd.below hW) (by omega) (by omega)) hcall).mono fun e w' h => ?_
    obtain ⟨code, _, h⟩ := h
    exact ⟨0, 0, _, code, h, fun h2 => absurd h2 hbig⟩
end Go.Proofs.YtbalpfpcbckghaaGreatDoor
