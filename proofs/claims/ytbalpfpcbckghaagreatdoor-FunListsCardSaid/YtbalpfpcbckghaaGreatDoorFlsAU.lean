/- Contracts of the functions that the statement reaches, and the plain mathematics beneath: several texts joined. -/
import Derived.Test.YtbalpfpcbckghaaGreatDoorFlsAT
import Derived.Test.YtbalpfpcbckghaaGreatDoorFlsAD
namespace Go.Proofs.YtbalpfpcbckghaaGreatDoor
open Go.RowKit Go.Lib
set_option linter.unusedVariables false

theorem funLists_f (l : VL) (sa : Option Addr) (sc : Nat) (k n : Int) (s : ByteArray) (sub : VL) (va : Option Addr) (vc : Nat) (n0 : Int) (ea : Nat → Addr) (w : World) (hfit : l.fit) (h64 : l.i64) (hln : l.len ≤ 140737488351232) (hsc : l.len ≤ sc) (hrep : RpL w (fun b => b < w.heap.size) l sa)
    (hfv : (val1 k n s sub).fit) (hv64 : (val1 k n s sub).i64) (hvc : sub.len ≤ vc) (hrv : RpL w (fun b => b < w.heap.size) sub va) (hn0 : -9223372036854775808 ≤ n0) (hn1 : n0 ≤ 9223372036854775807) (he : ErrsAt w ea) (htx : TxAt w) (hsp : SpaceAt w) :
    Calls Tryz.prog 3 #[.slice sa l.len sc, .agg #[.int .i64 k, .int .i64 n, .string s, .slice va sub.len vc], .int .i64 n0] w fun e w' => e = .returned (.bool true) ∧ Below w.heap.size w w' :=
  funLists_c l sa sc k n s sub va vc n0 ea w hfit hln hsc hrep hfv hvc hrv hn0 hn1 ⟨hsp, htx.mx, htx.room⟩ he
end Go.Proofs.YtbalpfpcbckghaaGreatDoor
