/- Contracts, and the plain mathematics beneath. -/
import Derived.Test.YtggngahmafbihaaGreatDoorPerAI
import Derived.Test.YtggngahmafbihaaGreatDoorPerAQ
import Derived.Test.YtggngahmafbihaaGreatDoorPerAM
import Derived.Test.YtggngahmafbihaaGreatDoorPerAN
import Derived.Test.YtggngahmafbihaaGreatDoorPerAP
import Derived.Test.YtggngahmafbihaaGreatDoorPerAR
set_option linter.unusedVariables false
set_option linter.unusedSimpArgs false
namespace Go.Proofs.YtggngahmafbihaaGreatDoor
open Go.RowKit Go.Lib
theorem K6(op ln:Int)(s:ByteArray)(k n:Int)(t:ByteArray)(a:Value)(sa:Option Addr)(m sc:Nat)(w:World)(hm:m≤4096):
 Calls Tryz.prog 150 #[.agg #[.int .i64 op,.int .i64 ln,.string s,.int .i64 k,.int .i64 n,.string t,a,.slice sa m sc]] w (qp w op m):=by
 by_cases h:(1≤op∧op≤29)∨(40≤op∧op≤52)
 ·have hk:op=1∨op=2∨op=3∨op=4∨op=5∨op=6∨op=7∨op=8∨op=9∨op=10∨op=11∨op=12∨op=13∨op=14∨op=15∨op=16∨op=17∨op=18∨op=19∨op=20∨op=21∨op=22∨op=23∨op=24∨op=25∨op=26∨op=27∨op=28∨op=29∨op=40∨op=41∨op=42∨op=43∨op=44∨op=45∨op=46∨op=47∨op=48∨op=49∨op=50∨op=51∨op=52:=by omega
  rcases hk with rfl|rfl|rfl|rfl|rfl|rfl|rfl|rfl|rfl|rfl|rfl|rfl|rfl|rfl|rfl|rfl|rfl|rfl|rfl|rfl|rfl|rfl|rfl|rfl|rfl|rfl|rfl|rfl|rfl|rfl|rfl|rfl|rfl|rfl|rfl|rfl|rfl|rfl|rfl|rfl|rfl|rfl
  ·exact qeU ln s k n t a sa m sc w hm
  ·exact qeV ln s k n t a sa m sc w hm
  ·exact qeW ln s k n t a sa m sc w hm
  ·exact qeX ln s k n t a sa m sc w hm
  ·exact qeY ln s k n t a sa m sc w hm
  ·exact qeZ ln s k n t a sa m sc w hm
  ·exact qe0 ln s k n t a sa m sc w hm
  ·exact qe1 ln s k n t a sa m sc w hm
  ·exact qe2 ln s k n t a sa m sc w hm
  ·exact qcI ln s k n t a sa m sc w hm
  ·exact qcJ ln s k n t a sa m sc w hm
  ·exact qcK ln s k n t a sa m sc w hm
  ·exact qcL ln s k n t a sa m sc w hm
  ·exact qcM ln s k n t a sa m sc w hm
  ·exact qcN ln s k n t a sa m sc w hm
  ·exact qcO ln s k n t a sa m sc w hm
  ·exact qcP ln s k n t a sa m sc w hm
  ·exact qcQ ln s k n t a sa m sc w hm
  ·exact qcR ln s k n t a sa m sc w hm
  ·exact qcS ln s k n t a sa m sc w hm
  ·exact qcT ln s k n t a sa m sc w hm
  ·exact qcU ln s k n t a sa m sc w hm
  ·exact qcV ln s k n t a sa m sc w hm
  ·exact qcW ln s k n t a sa m sc w hm
  ·exact qcX ln s k n t a sa m sc w hm
  ·exact qcY ln s k n t a sa m sc w hm
  ·exact qcZ ln s k n t a sa m sc w hm
  ·exact qc0 ln s k n t a sa m sc w hm
  ·exact qc1 ln s k n t a sa m sc w hm
  ·exact qc2 ln s k n t a sa m sc w hm
  ·exact qc3 ln s k n t a sa m sc w hm
  ·exact qc4 ln s k n t a sa m sc w hm
  ·exact qc5 ln s k n t a sa m sc w hm
  ·exact qc6 ln s k n t a sa m sc w hm
  ·exact qc7 ln s k n t a sa m sc w hm
  ·exact qc8 ln s k n t a sa m sc w hm
  ·exact qc9 ln s k n t a sa m sc w hm
  ·exact qda ln s k n t a sa m sc w hm
  ·exact qdb ln s k n t a sa m sc w hm
  ·exact qdc ln s k n t a sa m sc w hm
  ·exact qdd ln s k n t a sa m sc w hm
  ·exact qde ln s k n t a sa m sc w hm
 ·exact qaG ln s k n t a sa m sc w hm op h
end Go.Proofs.YtggngahmafbihaaGreatDoor
