/- Contracts of the functions that the statement reaches, and the plain mathematics beneath: several texts joined. -/
import Derived.Test.YtnphgcbknfmapaaGreatDoorWowAP
import Derived.Test.YtnphgcbknfmapaaGreatDoorWowAO
namespace Go.Proofs.YtnphgcbknfmapaaGreatDoor
open Go.RowKit Go.Lib
set_option linter.unusedVariables false

theorem worldOwners_c (bits0 id0 : Int) (wz : Bool) (w : World) (hb0 : I64 bits0) (hid : I64 id0) :
    Calls Tryz.prog 6 #[.int .i64 bits0, .int .i64 id0, .bool wz] w fun e w' => e = .returned (.bool true) ∧ Below w.heap.size w w' := by
  have h1 := Int.emod_nonneg bits0 (show (8 : Int) ≠ 0 by omega)
  have h2 := Int.emod_lt_of_pos bits0 (show (0 : Int) < 8 by omega)
  have h3 := Int.emod_nonneg id0 (show (4 : Int) ≠ 0 by omega)
  have h4 := Int.emod_lt_of_pos id0 (show (0 : Int) < 4 by omega)
  by_cases hi : id0 % 4 = 2
  · cases wz with
    | true => exact owners_t bits0 id0 _ 2 w hb0 hid rfl ⟨h1, h2⟩ hi
    | false => exact owners_o bits0 id0 _ 2 w hb0 hid rfl ⟨h1, h2⟩ hi
  · have hn : (id0 % 4 == 2) = false := by simpa using hi
    cases wz with
    | true => exact owners_z bits0 id0 _ _ w hb0 hid rfl ⟨h1, h2⟩ rfl ⟨h3, h4⟩ hn
    | false =>
      cases e1 : (Go.bits .and .i64 (bits0 % 8) 1 != 0) with
      | true =>
        cases e2 : (Go.bits .and .i64 (bits0 % 8) 2 != 0) with
        | true => exact owners_n11 bits0 id0 _ _ w hb0 hid rfl ⟨h1, h2⟩ rfl ⟨h3, h4⟩ hn e1 e2
        | false => exact owners_n10 bits0 id0 _ _ w hb0 hid rfl ⟨h1, h2⟩ rfl ⟨h3, h4⟩ hn e1 e2
      | false =>
        cases e2 : (Go.bits .and .i64 (bits0 % 8) 2 != 0) with
        | true => exact owners_n01 bits0 id0 _ _ w hb0 hid rfl ⟨h1, h2⟩ rfl ⟨h3, h4⟩ hn e1 e2
        | false => exact owners_n00 bits0 id0 _ _ w hb0 hid rfl ⟨h1, h2⟩ rfl ⟨h3, h4⟩ hn e1 e2
end Go.Proofs.YtnphgcbknfmapaaGreatDoor
