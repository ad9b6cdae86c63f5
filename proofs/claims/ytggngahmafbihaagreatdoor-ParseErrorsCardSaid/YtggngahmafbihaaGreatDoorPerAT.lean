/- Contracts, and the plain mathematics beneath. -/
import Derived.Deep.DeepCutAuto
import Derived.Test.YtggngahmafbihaaGreatDoorPerAO
import Derived.Test.YtggngahmafbihaaGreatDoorPerAS
set_option linter.unusedVariables false
set_option linter.unusedSimpArgs false
set_option maxRecDepth 100000
set_option maxHeartbeats 4000000
namespace Go.Proofs.YtggngahmafbihaaGreatDoor
open Go.RowKit Go.Lib
theorem qdl(op ln:Int)(s:ByteArray)(k n:Int)(t:ByteArray)(l vs:Value)(w:World):
 Calls Tryz.prog 175 #[.agg #[.int .i64 op,.int .i64 ln,.string s,.int .i64 k,.int .i64 n,.string t,l,vs],.int .i64 0] w fun e w'=>e= .returned (.bool (qi op 0))∧Below w.heap.size w w':=by
 obtain⟨wa,c⟩: ∃wa,wa=w.alloc (.cells #[.int .i64 op,.int .i64 ln,.string s,.int .i64 k,.int .i64 n,.string t,l,vs] 31):=⟨_,rfl⟩
 have hb:Below w.heap.size w wa:=by rw[c];exact(Below.refl _ _).alloc (Nat.le_refl _) _
 have m:NdB wa w.heap.size (.int .i64 op) (.int .i64 ln) (.string s) (.int .i64 k) (.int .i64 n) (.string t) l vs:=by rw[c];exact NdB.new _ _ _ _ _ _ _ _ _
 have v0:=m.c0;rw[c]at v0;have f:=hid hb;have a:=hid c;clear hb m c;by_cases hn:op=2∨op=20∨op=22∨op=25∨op=26∨op=50∨op=52
 ·rcases hn with rfl|rfl|rfl|rfl|rfl|rfl|rfl
  all_goals
   go_enter Tryz.func175,Tryz.ntmps175
   go_wp2_with fail
   rw[←a.out];go_ret
   exact⟨rfl,f.out⟩
 have z:=qm (show op≠2 by omega);have q:=qm (show op≠20 by omega);have r:=qm (show op≠22 by omega);have u:=qm (show op≠25 by omega);have v:=qm (show op≠26 by omega);have x:=qm (show op≠50 by omega);have y:=qm (show op≠52 by omega);have o:=qU (show op≠26 by omega);have p:=qU (show op≠50 by omega);have hk:op<1∨(1≤op∧op≤29)∨(30≤op∧op≤39)∨(40≤op∧op≤51)∨53≤op:=by omega
 have b:=hid hn;clear hn;rcases hk with h1|⟨h1,h2⟩|⟨h1,h2⟩|⟨h1,h2⟩|h1
 ·have g: ¬(1≤op):=by omega
  have h:op≤29:=by omega
  have i: ¬(40≤op):=by omega
  have j:op≤51:=by omega
  have d:=hid (show qi op 0=false by have hx:=b.out;simp[qi,jV];try omega);go_enter Tryz.func175,Tryz.ntmps175
  go_wp2_with fail
  rw[←a.out];go_ret
  exact⟨qn (by rw[d.out];rfl),f.out⟩
 ·have g:1≤op:=by omega
  have h:op≤29:=by omega
  have i: ¬(40≤op):=by omega
  have j:op≤51:=by omega
  have d:=hid (show qi op 0=true by have hx:=b.out;simp[qi,jV];try omega);go_enter Tryz.func175,Tryz.ntmps175
  go_wp2_with fail
  rw[←a.out];go_ret
  exact⟨qn (by rw[d.out];rfl),f.out⟩
 ·have g:1≤op:=by omega
  have h: ¬(op≤29):=by omega
  have i: ¬(40≤op):=by omega
  have j:op≤51:=by omega
  have d:=hid (show qi op 0=false by have hx:=b.out;simp[qi,jV];try omega);go_enter Tryz.func175,Tryz.ntmps175
  go_wp2_with fail
  rw[←a.out];go_ret
  exact⟨qn (by rw[d.out];rfl),f.out⟩
 ·have g:1≤op:=by omega
  have h: ¬(op≤29):=by omega
  have i:40≤op:=by omega
  have j:op≤51:=by omega
  have d:=hid (show qi op 0=false by have hx:=b.out;simp[qi,jV];try omega);go_enter Tryz.func175,Tryz.ntmps175
  go_wp2_with fail
  rw[←a.out];go_ret
  exact⟨qn (by rw[d.out];rfl),f.out⟩
 ·have g:1≤op:=by omega
  have h: ¬(op≤29):=by omega
  have i:40≤op:=by omega
  have j: ¬(op≤51):=by omega
  have d:=hid (show qi op 0=false by have hx:=b.out;simp[qi,jV];try omega);go_enter Tryz.func175,Tryz.ntmps175
  go_wp2_with fail
  rw[←a.out];go_ret
  exact⟨qn (by rw[d.out];rfl),f.out⟩
theorem qdm(op ln:Int)(s:ByteArray)(k n:Int)(t:ByteArray)(l vs:Value)(w:World):
 Calls Tryz.prog 175 #[.agg #[.int .i64 op,.int .i64 ln,.string s,.int .i64 k,.int .i64 n,.string t,l,vs],.int .i64 1] w fun e w'=>e= .returned (.bool (qi op 1))∧Below w.heap.size w w':=by
 obtain⟨wa,c⟩: ∃wa,wa=w.alloc (.cells #[.int .i64 op,.int .i64 ln,.string s,.int .i64 k,.int .i64 n,.string t,l,vs] 31):=⟨_,rfl⟩
 have hb:Below w.heap.size w wa:=by rw[c];exact(Below.refl _ _).alloc (Nat.le_refl _) _
 have m:NdB wa w.heap.size (.int .i64 op) (.int .i64 ln) (.string s) (.int .i64 k) (.int .i64 n) (.string t) l vs:=by rw[c];exact NdB.new _ _ _ _ _ _ _ _ _
 have v0:=m.c0;rw[c]at v0;have f:=hid hb;have a:=hid c;clear hb m c;by_cases hn:op=2∨op=20∨op=22∨op=25∨op=26∨op=50∨op=52
 ·rcases hn with rfl|rfl|rfl|rfl|rfl|rfl|rfl
  all_goals
   go_enter Tryz.func175,Tryz.ntmps175
   go_wp2_with fail
   rw[←a.out];go_ret
   exact⟨rfl,f.out⟩
 have z:=qm (show op≠2 by omega);have q:=qm (show op≠20 by omega);have r:=qm (show op≠22 by omega);have u:=qm (show op≠25 by omega);have v:=qm (show op≠26 by omega);have x:=qm (show op≠50 by omega);have y:=qm (show op≠52 by omega);have o:=qU (show op≠26 by omega);have p:=qU (show op≠50 by omega);have hk:op<1∨(1≤op∧op≤29)∨(30≤op∧op≤39)∨(40≤op∧op≤51)∨53≤op:=by omega
 have b:=hid hn;clear hn;rcases hk with h1|⟨h1,h2⟩|⟨h1,h2⟩|⟨h1,h2⟩|h1
 ·have g: ¬(1≤op):=by omega
  have h:op≤29:=by omega
  have i: ¬(40≤op):=by omega
  have j:op≤51:=by omega
  have d:=hid (show qi op 1=false by have hx:=b.out;simp[qi,jV];try omega);go_enter Tryz.func175,Tryz.ntmps175
  go_wp2_with fail
  rw[←a.out];go_ret
  exact⟨qn (by rw[d.out];rfl),f.out⟩
 ·have g:1≤op:=by omega
  have h:op≤29:=by omega
  have i: ¬(40≤op):=by omega
  have j:op≤51:=by omega
  have d:=hid (show qi op 1=true by have hx:=b.out;simp[qi,jV];try omega);go_enter Tryz.func175,Tryz.ntmps175
  go_wp2_with fail
  rw[←a.out];go_ret
  exact⟨qn (by rw[d.out];rfl),f.out⟩
 ·have g:1≤op:=by omega
  have h: ¬(op≤29):=by omega
  have i: ¬(40≤op):=by omega
  have j:op≤51:=by omega
  have d:=hid (show qi op 1=false by have hx:=b.out;simp[qi,jV];try omega);go_enter Tryz.func175,Tryz.ntmps175
  go_wp2_with fail
  rw[←a.out];go_ret
  exact⟨qn (by rw[d.out];rfl),f.out⟩
 ·have g:1≤op:=by omega
  have h: ¬(op≤29):=by omega
  have i:40≤op:=by omega
  have j:op≤51:=by omega
  have d:=hid (show qi op 1=false by have hx:=b.out;simp[qi,jV];try omega);go_enter Tryz.func175,Tryz.ntmps175
  go_wp2_with fail
  rw[←a.out];go_ret
  exact⟨qn (by rw[d.out];rfl),f.out⟩
 ·have g:1≤op:=by omega
  have h: ¬(op≤29):=by omega
  have i:40≤op:=by omega
  have j: ¬(op≤51):=by omega
  have d:=hid (show qi op 1=false by have hx:=b.out;simp[qi,jV];try omega);go_enter Tryz.func175,Tryz.ntmps175
  go_wp2_with fail
  rw[←a.out];go_ret
  exact⟨qn (by rw[d.out];rfl),f.out⟩
theorem qdn(op ln:Int)(s:ByteArray)(k n:Int)(t:ByteArray)(l vs:Value)(w:World):
 Calls Tryz.prog 175 #[.agg #[.int .i64 op,.int .i64 ln,.string s,.int .i64 k,.int .i64 n,.string t,l,vs],.int .i64 2] w fun e w'=>e= .returned (.bool (qi op 2))∧Below w.heap.size w w':=by
 obtain⟨wa,c⟩: ∃wa,wa=w.alloc (.cells #[.int .i64 op,.int .i64 ln,.string s,.int .i64 k,.int .i64 n,.string t,l,vs] 31):=⟨_,rfl⟩
 have hb:Below w.heap.size w wa:=by rw[c];exact(Below.refl _ _).alloc (Nat.le_refl _) _
 have m:NdB wa w.heap.size (.int .i64 op) (.int .i64 ln) (.string s) (.int .i64 k) (.int .i64 n) (.string t) l vs:=by rw[c];exact NdB.new _ _ _ _ _ _ _ _ _
 have v0:=m.c0;rw[c]at v0;have f:=hid hb;have a:=hid c;clear hb m c;by_cases hn:op=2∨op=20∨op=22∨op=25∨op=26∨op=50∨op=52
 ·rcases hn with rfl|rfl|rfl|rfl|rfl|rfl|rfl
  all_goals
   go_enter Tryz.func175,Tryz.ntmps175
   go_wp2_with fail
   rw[←a.out];go_ret
   exact⟨rfl,f.out⟩
 have z:=qm (show op≠2 by omega);have q:=qm (show op≠20 by omega);have r:=qm (show op≠22 by omega);have u:=qm (show op≠25 by omega);have v:=qm (show op≠26 by omega);have x:=qm (show op≠50 by omega);have y:=qm (show op≠52 by omega);have o:=qU (show op≠26 by omega);have p:=qU (show op≠50 by omega);have hk:op<1∨(1≤op∧op≤29)∨(30≤op∧op≤39)∨(40≤op∧op≤51)∨53≤op:=by omega
 have b:=hid hn;clear hn;rcases hk with h1|⟨h1,h2⟩|⟨h1,h2⟩|⟨h1,h2⟩|h1
 ·have g: ¬(1≤op):=by omega
  have h:op≤29:=by omega
  have i: ¬(40≤op):=by omega
  have j:op≤51:=by omega
  have d:=hid (show qi op 2=false by have hx:=b.out;simp[qi];try omega);go_enter Tryz.func175,Tryz.ntmps175
  go_wp2_with fail
  rw[←a.out];go_ret
  exact⟨qn (by rw[d.out];rfl),f.out⟩
 ·have g:1≤op:=by omega
  have h:op≤29:=by omega
  have i: ¬(40≤op):=by omega
  have j:op≤51:=by omega
  have d:=hid (show qi op 2=false by have hx:=b.out;simp[qi];try omega);go_enter Tryz.func175,Tryz.ntmps175
  go_wp2_with fail
  rw[←a.out];go_ret
  exact⟨qn (by rw[d.out];rfl),f.out⟩
 ·have g:1≤op:=by omega
  have h: ¬(op≤29):=by omega
  have i: ¬(40≤op):=by omega
  have j:op≤51:=by omega
  have d:=hid (show qi op 2=false by have hx:=b.out;simp[qi];try omega);go_enter Tryz.func175,Tryz.ntmps175
  go_wp2_with fail
  rw[←a.out];go_ret
  exact⟨qn (by rw[d.out];rfl),f.out⟩
 ·have g:1≤op:=by omega
  have h: ¬(op≤29):=by omega
  have i:40≤op:=by omega
  have j:op≤51:=by omega
  have d:=hid (show qi op 2=false by have hx:=b.out;simp[qi];try omega);go_enter Tryz.func175,Tryz.ntmps175
  go_wp2_with fail
  rw[←a.out];go_ret
  exact⟨qn (by rw[d.out];rfl),f.out⟩
 ·have g:1≤op:=by omega
  have h: ¬(op≤29):=by omega
  have i:40≤op:=by omega
  have j: ¬(op≤51):=by omega
  have d:=hid (show qi op 2=false by have hx:=b.out;simp[qi];try omega);go_enter Tryz.func175,Tryz.ntmps175
  go_wp2_with fail
  rw[←a.out];go_ret
  exact⟨qn (by rw[d.out];rfl),f.out⟩
theorem qdo(op ln:Int)(s:ByteArray)(k n:Int)(t:ByteArray)(l vs:Value)(w:World):
 Calls Tryz.prog 175 #[.agg #[.int .i64 op,.int .i64 ln,.string s,.int .i64 k,.int .i64 n,.string t,l,vs],.int .i64 3] w fun e w'=>e= .returned (.bool (qi op 3))∧Below w.heap.size w w':=by
 obtain⟨wa,c⟩: ∃wa,wa=w.alloc (.cells #[.int .i64 op,.int .i64 ln,.string s,.int .i64 k,.int .i64 n,.string t,l,vs] 31):=⟨_,rfl⟩
 have hb:Below w.heap.size w wa:=by rw[c];exact(Below.refl _ _).alloc (Nat.le_refl _) _
 have m:NdB wa w.heap.size (.int .i64 op) (.int .i64 ln) (.string s) (.int .i64 k) (.int .i64 n) (.string t) l vs:=by rw[c];exact NdB.new _ _ _ _ _ _ _ _ _
 have v0:=m.c0;rw[c]at v0;have f:=hid hb;have a:=hid c;clear hb m c;by_cases hn:op=2∨op=20∨op=22∨op=25∨op=26∨op=50∨op=52
 ·rcases hn with rfl|rfl|rfl|rfl|rfl|rfl|rfl
  all_goals
   go_enter Tryz.func175,Tryz.ntmps175
   go_wp2_with fail
   rw[←a.out];go_ret
   exact⟨rfl,f.out⟩
 have z:=qm (show op≠2 by omega);have q:=qm (show op≠20 by omega);have r:=qm (show op≠22 by omega);have u:=qm (show op≠25 by omega);have v:=qm (show op≠26 by omega);have x:=qm (show op≠50 by omega);have y:=qm (show op≠52 by omega);have o:=qU (show op≠26 by omega);have p:=qU (show op≠50 by omega);have hk:op<1∨(1≤op∧op≤29)∨(30≤op∧op≤39)∨(40≤op∧op≤51)∨53≤op:=by omega
 have b:=hid hn;clear hn;rcases hk with h1|⟨h1,h2⟩|⟨h1,h2⟩|⟨h1,h2⟩|h1
 ·have g: ¬(1≤op):=by omega
  have h:op≤29:=by omega
  have i: ¬(40≤op):=by omega
  have j:op≤51:=by omega
  have d:=hid (show qi op 3=false by have hx:=b.out;simp[qi];try omega);go_enter Tryz.func175,Tryz.ntmps175
  go_wp2_with fail
  rw[←a.out];go_ret
  exact⟨qn (by rw[d.out];rfl),f.out⟩
 ·have g:1≤op:=by omega
  have h:op≤29:=by omega
  have i: ¬(40≤op):=by omega
  have j:op≤51:=by omega
  have d:=hid (show qi op 3=false by have hx:=b.out;simp[qi];try omega);go_enter Tryz.func175,Tryz.ntmps175
  go_wp2_with fail
  rw[←a.out];go_ret
  exact⟨qn (by rw[d.out];rfl),f.out⟩
 ·have g:1≤op:=by omega
  have h: ¬(op≤29):=by omega
  have i: ¬(40≤op):=by omega
  have j:op≤51:=by omega
  have d:=hid (show qi op 3=false by have hx:=b.out;simp[qi];try omega);go_enter Tryz.func175,Tryz.ntmps175
  go_wp2_with fail
  rw[←a.out];go_ret
  exact⟨qn (by rw[d.out];rfl),f.out⟩
 ·have g:1≤op:=by omega
  have h: ¬(op≤29):=by omega
  have i:40≤op:=by omega
  have j:op≤51:=by omega
  have d:=hid (show qi op 3=false by have hx:=b.out;simp[qi];try omega);go_enter Tryz.func175,Tryz.ntmps175
  go_wp2_with fail
  rw[←a.out];go_ret
  exact⟨qn (by rw[d.out];rfl),f.out⟩
 ·have g:1≤op:=by omega
  have h: ¬(op≤29):=by omega
  have i:40≤op:=by omega
  have j: ¬(op≤51):=by omega
  have d:=hid (show qi op 3=false by have hx:=b.out;simp[qi];try omega);go_enter Tryz.func175,Tryz.ntmps175
  go_wp2_with fail
  rw[←a.out];go_ret
  exact⟨qn (by rw[d.out];rfl),f.out⟩
theorem qdp(op ln:Int)(s:ByteArray)(k n:Int)(t:ByteArray)(l vs:Value)(w:World):
 Calls Tryz.prog 175 #[.agg #[.int .i64 op,.int .i64 ln,.string s,.int .i64 k,.int .i64 n,.string t,l,vs],.int .i64 4] w fun e w'=>e= .returned (.bool (qi op 4))∧Below w.heap.size w w':=by
 obtain⟨wa,c⟩: ∃wa,wa=w.alloc (.cells #[.int .i64 op,.int .i64 ln,.string s,.int .i64 k,.int .i64 n,.string t,l,vs] 31):=⟨_,rfl⟩
 have hb:Below w.heap.size w wa:=by rw[c];exact(Below.refl _ _).alloc (Nat.le_refl _) _
 have m:NdB wa w.heap.size (.int .i64 op) (.int .i64 ln) (.string s) (.int .i64 k) (.int .i64 n) (.string t) l vs:=by rw[c];exact NdB.new _ _ _ _ _ _ _ _ _
 have v0:=m.c0;rw[c]at v0;have f:=hid hb;have a:=hid c;clear hb m c;by_cases hn:op=2∨op=20∨op=22∨op=25∨op=26∨op=50∨op=52
 ·rcases hn with rfl|rfl|rfl|rfl|rfl|rfl|rfl
  all_goals
   go_enter Tryz.func175,Tryz.ntmps175
   go_wp2_with fail
   rw[←a.out];go_ret
   exact⟨rfl,f.out⟩
 have z:=qm (show op≠2 by omega);have q:=qm (show op≠20 by omega);have r:=qm (show op≠22 by omega);have u:=qm (show op≠25 by omega);have v:=qm (show op≠26 by omega);have x:=qm (show op≠50 by omega);have y:=qm (show op≠52 by omega);have o:=qU (show op≠26 by omega);have p:=qU (show op≠50 by omega);have hk:op<1∨(1≤op∧op≤29)∨(30≤op∧op≤39)∨(40≤op∧op≤51)∨53≤op:=by omega
 have b:=hid hn;clear hn;rcases hk with h1|⟨h1,h2⟩|⟨h1,h2⟩|⟨h1,h2⟩|h1
 ·have g: ¬(1≤op):=by omega
  have h:op≤29:=by omega
  have i: ¬(40≤op):=by omega
  have j:op≤51:=by omega
  have d:=hid (show qi op 4=false by have hx:=b.out;simp[qi];try omega);go_enter Tryz.func175,Tryz.ntmps175
  go_wp2_with fail
  rw[←a.out];go_ret
  exact⟨qn (by rw[d.out];rfl),f.out⟩
 ·have g:1≤op:=by omega
  have h:op≤29:=by omega
  have i: ¬(40≤op):=by omega
  have j:op≤51:=by omega
  have d:=hid (show qi op 4=false by have hx:=b.out;simp[qi];try omega);go_enter Tryz.func175,Tryz.ntmps175
  go_wp2_with fail
  rw[←a.out];go_ret
  exact⟨qn (by rw[d.out];rfl),f.out⟩
 ·have g:1≤op:=by omega
  have h: ¬(op≤29):=by omega
  have i: ¬(40≤op):=by omega
  have j:op≤51:=by omega
  have d:=hid (show qi op 4=false by have hx:=b.out;simp[qi];try omega);go_enter Tryz.func175,Tryz.ntmps175
  go_wp2_with fail
  rw[←a.out];go_ret
  exact⟨qn (by rw[d.out];rfl),f.out⟩
 ·have g:1≤op:=by omega
  have h: ¬(op≤29):=by omega
  have i:40≤op:=by omega
  have j:op≤51:=by omega
  have d:=hid (show qi op 4=false by have hx:=b.out;simp[qi];try omega);go_enter Tryz.func175,Tryz.ntmps175
  go_wp2_with fail
  rw[←a.out];go_ret
  exact⟨qn (by rw[d.out];rfl),f.out⟩
 ·have g:1≤op:=by omega
  have h: ¬(op≤29):=by omega
  have i:40≤op:=by omega
  have j: ¬(op≤51):=by omega
  have d:=hid (show qi op 4=false by have hx:=b.out;simp[qi];try omega);go_enter Tryz.func175,Tryz.ntmps175
  go_wp2_with fail
  rw[←a.out];go_ret
  exact⟨qn (by rw[d.out];rfl),f.out⟩
theorem qdq(op ln:Int)(s:ByteArray)(k n:Int)(t:ByteArray)(l vs:Value)(w:World):
 Calls Tryz.prog 175 #[.agg #[.int .i64 op,.int .i64 ln,.string s,.int .i64 k,.int .i64 n,.string t,l,vs],.int .i64 5] w fun e w'=>e= .returned (.bool (qi op 5))∧Below w.heap.size w w':=by
 obtain⟨wa,c⟩: ∃wa,wa=w.alloc (.cells #[.int .i64 op,.int .i64 ln,.string s,.int .i64 k,.int .i64 n,.string t,l,vs] 31):=⟨_,rfl⟩
 have hb:Below w.heap.size w wa:=by rw[c];exact(Below.refl _ _).alloc (Nat.le_refl _) _
 have m:NdB wa w.heap.size (.int .i64 op) (.int .i64 ln) (.string s) (.int .i64 k) (.int .i64 n) (.string t) l vs:=by rw[c];exact NdB.new _ _ _ _ _ _ _ _ _
 have v0:=m.c0;rw[c]at v0;have f:=hid hb;have a:=hid c;clear hb m c;by_cases hn:op=2∨op=20∨op=22∨op=25∨op=26∨op=50∨op=52
 ·rcases hn with rfl|rfl|rfl|rfl|rfl|rfl|rfl
  all_goals
   go_enter Tryz.func175,Tryz.ntmps175
   go_wp2_with fail
   rw[←a.out];go_ret
   exact⟨rfl,f.out⟩
 have z:=qm (show op≠2 by omega);have q:=qm (show op≠20 by omega);have r:=qm (show op≠22 by omega);have u:=qm (show op≠25 by omega);have v:=qm (show op≠26 by omega);have x:=qm (show op≠50 by omega);have y:=qm (show op≠52 by omega);have o:=qU (show op≠26 by omega);have p:=qU (show op≠50 by omega);have hk:op<1∨(1≤op∧op≤29)∨(30≤op∧op≤39)∨(40≤op∧op≤51)∨53≤op:=by omega
 have b:=hid hn;clear hn;rcases hk with h1|⟨h1,h2⟩|⟨h1,h2⟩|⟨h1,h2⟩|h1
 ·have g: ¬(1≤op):=by omega
  have h:op≤29:=by omega
  have i: ¬(40≤op):=by omega
  have j:op≤51:=by omega
  have d:=hid (show qi op 5=false by have hx:=b.out;simp[qi];try omega);go_enter Tryz.func175,Tryz.ntmps175
  go_wp2_with fail
  rw[←a.out];go_ret
  exact⟨qn (by rw[d.out];rfl),f.out⟩
 ·have g:1≤op:=by omega
  have h:op≤29:=by omega
  have i: ¬(40≤op):=by omega
  have j:op≤51:=by omega
  have d:=hid (show qi op 5=false by have hx:=b.out;simp[qi];try omega);go_enter Tryz.func175,Tryz.ntmps175
  go_wp2_with fail
  rw[←a.out];go_ret
  exact⟨qn (by rw[d.out];rfl),f.out⟩
 ·have g:1≤op:=by omega
  have h: ¬(op≤29):=by omega
  have i: ¬(40≤op):=by omega
  have j:op≤51:=by omega
  have d:=hid (show qi op 5=false by have hx:=b.out;simp[qi];try omega);go_enter Tryz.func175,Tryz.ntmps175
  go_wp2_with fail
  rw[←a.out];go_ret
  exact⟨qn (by rw[d.out];rfl),f.out⟩
 ·have g:1≤op:=by omega
  have h: ¬(op≤29):=by omega
  have i:40≤op:=by omega
  have j:op≤51:=by omega
  have d:=hid (show qi op 5=false by have hx:=b.out;simp[qi];try omega);go_enter Tryz.func175,Tryz.ntmps175
  go_wp2_with fail
  rw[←a.out];go_ret
  exact⟨qn (by rw[d.out];rfl),f.out⟩
 ·have g:1≤op:=by omega
  have h: ¬(op≤29):=by omega
  have i:40≤op:=by omega
  have j: ¬(op≤51):=by omega
  have d:=hid (show qi op 5=false by have hx:=b.out;simp[qi];try omega);go_enter Tryz.func175,Tryz.ntmps175
  go_wp2_with fail
  rw[←a.out];go_ret
  exact⟨qn (by rw[d.out];rfl),f.out⟩
theorem qdr(op ln:Int)(s:ByteArray)(k n:Int)(t:ByteArray)(l vs:Value)(w:World):
 Calls Tryz.prog 175 #[.agg #[.int .i64 op,.int .i64 ln,.string s,.int .i64 k,.int .i64 n,.string t,l,vs],.int .i64 6] w fun e w'=>e= .returned (.bool (qi op 6))∧Below w.heap.size w w':=by
 obtain⟨wa,c⟩: ∃wa,wa=w.alloc (.cells #[.int .i64 op,.int .i64 ln,.string s,.int .i64 k,.int .i64 n,.string t,l,vs] 31):=⟨_,rfl⟩
 have hb:Below w.heap.size w wa:=by rw[c];exact(Below.refl _ _).alloc (Nat.le_refl _) _
 have m:NdB wa w.heap.size (.int .i64 op) (.int .i64 ln) (.string s) (.int .i64 k) (.int .i64 n) (.string t) l vs:=by rw[c];exact NdB.new _ _ _ _ _ _ _ _ _
 have v0:=m.c0;rw[c]at v0;have f:=hid hb;have a:=hid c;clear hb m c;by_cases hn:op=2∨op=20∨op=22∨op=25∨op=26∨op=50∨op=52
 ·rcases hn with rfl|rfl|rfl|rfl|rfl|rfl|rfl
  all_goals
   go_enter Tryz.func175,Tryz.ntmps175
   go_wp2_with fail
   rw[←a.out];go_ret
   exact⟨rfl,f.out⟩
 have z:=qm (show op≠2 by omega);have q:=qm (show op≠20 by omega);have r:=qm (show op≠22 by omega);have u:=qm (show op≠25 by omega);have v:=qm (show op≠26 by omega);have x:=qm (show op≠50 by omega);have y:=qm (show op≠52 by omega);have o:=qU (show op≠26 by omega);have p:=qU (show op≠50 by omega);have hk:op<1∨(1≤op∧op≤29)∨(30≤op∧op≤39)∨(40≤op∧op≤51)∨53≤op:=by omega
 have b:=hid hn;clear hn;rcases hk with h1|⟨h1,h2⟩|⟨h1,h2⟩|⟨h1,h2⟩|h1
 ·have g: ¬(1≤op):=by omega
  have h:op≤29:=by omega
  have i: ¬(40≤op):=by omega
  have j:op≤51:=by omega
  have d:=hid (show qi op 6=false by have hx:=b.out;simp[qi];try omega);go_enter Tryz.func175,Tryz.ntmps175
  go_wp2_with fail
  rw[←a.out];go_ret
  exact⟨qn (by rw[d.out];rfl),f.out⟩
 ·have g:1≤op:=by omega
  have h:op≤29:=by omega
  have i: ¬(40≤op):=by omega
  have j:op≤51:=by omega
  have d:=hid (show qi op 6=false by have hx:=b.out;simp[qi];try omega);go_enter Tryz.func175,Tryz.ntmps175
  go_wp2_with fail
  rw[←a.out];go_ret
  exact⟨qn (by rw[d.out];rfl),f.out⟩
 ·have g:1≤op:=by omega
  have h: ¬(op≤29):=by omega
  have i: ¬(40≤op):=by omega
  have j:op≤51:=by omega
  have d:=hid (show qi op 6=false by have hx:=b.out;simp[qi];try omega);go_enter Tryz.func175,Tryz.ntmps175
  go_wp2_with fail
  rw[←a.out];go_ret
  exact⟨qn (by rw[d.out];rfl),f.out⟩
 ·have g:1≤op:=by omega
  have h: ¬(op≤29):=by omega
  have i:40≤op:=by omega
  have j:op≤51:=by omega
  have d:=hid (show qi op 6=false by have hx:=b.out;simp[qi];try omega);go_enter Tryz.func175,Tryz.ntmps175
  go_wp2_with fail
  rw[←a.out];go_ret
  exact⟨qn (by rw[d.out];rfl),f.out⟩
 ·have g:1≤op:=by omega
  have h: ¬(op≤29):=by omega
  have i:40≤op:=by omega
  have j: ¬(op≤51):=by omega
  have d:=hid (show qi op 6=false by have hx:=b.out;simp[qi];try omega);go_enter Tryz.func175,Tryz.ntmps175
  go_wp2_with fail
  rw[←a.out];go_ret
  exact⟨qn (by rw[d.out];rfl),f.out⟩
theorem qds(op ln:Int)(s:ByteArray)(k n:Int)(t:ByteArray)(l vs:Value)(w:World):
 Calls Tryz.prog 175 #[.agg #[.int .i64 op,.int .i64 ln,.string s,.int .i64 k,.int .i64 n,.string t,l,vs],.int .i64 7] w fun e w'=>e= .returned (.bool (qi op 7))∧Below w.heap.size w w':=by
 obtain⟨wa,c⟩: ∃wa,wa=w.alloc (.cells #[.int .i64 op,.int .i64 ln,.string s,.int .i64 k,.int .i64 n,.string t,l,vs] 31):=⟨_,rfl⟩
 have hb:Below w.heap.size w wa:=by rw[c];exact(Below.refl _ _).alloc (Nat.le_refl _) _
 have m:NdB wa w.heap.size (.int .i64 op) (.int .i64 ln) (.string s) (.int .i64 k) (.int .i64 n) (.string t) l vs:=by rw[c];exact NdB.new _ _ _ _ _ _ _ _ _
 have v0:=m.c0;rw[c]at v0;have f:=hid hb;have a:=hid c;clear hb m c;by_cases hn:op=2∨op=20∨op=22∨op=25∨op=26∨op=50∨op=52
 ·rcases hn with rfl|rfl|rfl|rfl|rfl|rfl|rfl
  all_goals
   go_enter Tryz.func175,Tryz.ntmps175
   go_wp2_with fail
   rw[←a.out];go_ret
   exact⟨rfl,f.out⟩
 have z:=qm (show op≠2 by omega);have q:=qm (show op≠20 by omega);have r:=qm (show op≠22 by omega);have u:=qm (show op≠25 by omega);have v:=qm (show op≠26 by omega);have x:=qm (show op≠50 by omega);have y:=qm (show op≠52 by omega);have o:=qU (show op≠26 by omega);have p:=qU (show op≠50 by omega);have hk:op<1∨(1≤op∧op≤29)∨(30≤op∧op≤39)∨(40≤op∧op≤51)∨53≤op:=by omega
 have b:=hid hn;clear hn;rcases hk with h1|⟨h1,h2⟩|⟨h1,h2⟩|⟨h1,h2⟩|h1
 ·have g: ¬(1≤op):=by omega
  have h:op≤29:=by omega
  have i: ¬(40≤op):=by omega
  have j:op≤51:=by omega
  have d:=hid (show qi op 7=false by have hx:=b.out;simp[qi];try omega);go_enter Tryz.func175,Tryz.ntmps175
  go_wp2_with fail
  rw[←a.out];go_ret
  exact⟨qn (by rw[d.out];rfl),f.out⟩
 ·have g:1≤op:=by omega
  have h:op≤29:=by omega
  have i: ¬(40≤op):=by omega
  have j:op≤51:=by omega
  have d:=hid (show qi op 7=false by have hx:=b.out;simp[qi];try omega);go_enter Tryz.func175,Tryz.ntmps175
  go_wp2_with fail
  rw[←a.out];go_ret
  exact⟨qn (by rw[d.out];rfl),f.out⟩
 ·have g:1≤op:=by omega
  have h: ¬(op≤29):=by omega
  have i: ¬(40≤op):=by omega
  have j:op≤51:=by omega
  have d:=hid (show qi op 7=false by have hx:=b.out;simp[qi];try omega);go_enter Tryz.func175,Tryz.ntmps175
  go_wp2_with fail
  rw[←a.out];go_ret
  exact⟨qn (by rw[d.out];rfl),f.out⟩
 ·have g:1≤op:=by omega
  have h: ¬(op≤29):=by omega
  have i:40≤op:=by omega
  have j:op≤51:=by omega
  have d:=hid (show qi op 7=true by have hx:=b.out;simp[qi];try omega);go_enter Tryz.func175,Tryz.ntmps175
  go_wp2_with fail
  rw[←a.out];go_ret
  exact⟨qn (by rw[d.out];rfl),f.out⟩
 ·have g:1≤op:=by omega
  have h: ¬(op≤29):=by omega
  have i:40≤op:=by omega
  have j: ¬(op≤51):=by omega
  have d:=hid (show qi op 7=false by have hx:=b.out;simp[qi];try omega);go_enter Tryz.func175,Tryz.ntmps175
  go_wp2_with fail
  rw[←a.out];go_ret
  exact⟨qn (by rw[d.out];rfl),f.out⟩
theorem qdt(op ln:Int)(s:ByteArray)(k n:Int)(t:ByteArray)(l vs:Value)(w:World):
 Calls Tryz.prog 175 #[.agg #[.int .i64 op,.int .i64 ln,.string s,.int .i64 k,.int .i64 n,.string t,l,vs],.int .i64 8] w fun e w'=>e= .returned (.bool (qi op 8))∧Below w.heap.size w w':=by
 obtain⟨wa,c⟩: ∃wa,wa=w.alloc (.cells #[.int .i64 op,.int .i64 ln,.string s,.int .i64 k,.int .i64 n,.string t,l,vs] 31):=⟨_,rfl⟩
 have hb:Below w.heap.size w wa:=by rw[c];exact(Below.refl _ _).alloc (Nat.le_refl _) _
 have m:NdB wa w.heap.size (.int .i64 op) (.int .i64 ln) (.string s) (.int .i64 k) (.int .i64 n) (.string t) l vs:=by rw[c];exact NdB.new _ _ _ _ _ _ _ _ _
 have v0:=m.c0;rw[c]at v0;have f:=hid hb;have a:=hid c;clear hb m c;by_cases hn:op=2∨op=20∨op=22∨op=25∨op=26∨op=50∨op=52
 ·rcases hn with rfl|rfl|rfl|rfl|rfl|rfl|rfl
  all_goals
   go_enter Tryz.func175,Tryz.ntmps175
   go_wp2_with fail
   rw[←a.out];go_ret
   exact⟨rfl,f.out⟩
 have z:=qm (show op≠2 by omega);have q:=qm (show op≠20 by omega);have r:=qm (show op≠22 by omega);have u:=qm (show op≠25 by omega);have v:=qm (show op≠26 by omega);have x:=qm (show op≠50 by omega);have y:=qm (show op≠52 by omega);have o:=qU (show op≠26 by omega);have p:=qU (show op≠50 by omega);have hk:op<1∨(1≤op∧op≤29)∨(30≤op∧op≤39)∨(40≤op∧op≤51)∨53≤op:=by omega
 have b:=hid hn;clear hn;rcases hk with h1|⟨h1,h2⟩|⟨h1,h2⟩|⟨h1,h2⟩|h1
 ·have g: ¬(1≤op):=by omega
  have h:op≤29:=by omega
  have i: ¬(40≤op):=by omega
  have j:op≤51:=by omega
  have d:=hid (show qi op 8=false by have hx:=b.out;simp[qi];try omega);go_enter Tryz.func175,Tryz.ntmps175
  go_wp2_with fail
  rw[←a.out];go_ret
  exact⟨qn (by rw[d.out];rfl),f.out⟩
 ·have g:1≤op:=by omega
  have h:op≤29:=by omega
  have i: ¬(40≤op):=by omega
  have j:op≤51:=by omega
  have d:=hid (show qi op 8=false by have hx:=b.out;simp[qi];try omega);go_enter Tryz.func175,Tryz.ntmps175
  go_wp2_with fail
  rw[←a.out];go_ret
  exact⟨qn (by rw[d.out];rfl),f.out⟩
 ·have g:1≤op:=by omega
  have h: ¬(op≤29):=by omega
  have i: ¬(40≤op):=by omega
  have j:op≤51:=by omega
  have d:=hid (show qi op 8=false by have hx:=b.out;simp[qi];try omega);go_enter Tryz.func175,Tryz.ntmps175
  go_wp2_with fail
  rw[←a.out];go_ret
  exact⟨qn (by rw[d.out];rfl),f.out⟩
 ·have g:1≤op:=by omega
  have h: ¬(op≤29):=by omega
  have i:40≤op:=by omega
  have j:op≤51:=by omega
  have d:=hid (show qi op 8=false by have hx:=b.out;simp[qi];try omega);go_enter Tryz.func175,Tryz.ntmps175
  go_wp2_with fail
  rw[←a.out];go_ret
  exact⟨qn (by rw[d.out];rfl),f.out⟩
 ·have g:1≤op:=by omega
  have h: ¬(op≤29):=by omega
  have i:40≤op:=by omega
  have j: ¬(op≤51):=by omega
  have d:=hid (show qi op 8=false by have hx:=b.out;simp[qi];try omega);go_enter Tryz.func175,Tryz.ntmps175
  go_wp2_with fail
  rw[←a.out];go_ret
  exact⟨qn (by rw[d.out];rfl),f.out⟩
theorem qdu(op ln:Int)(s:ByteArray)(k n:Int)(t:ByteArray)(b a:Value)(r:Nat)(w:World)(hr:r≤8):
 Calls Tryz.prog 175 #[.agg #[.int .i64 op,.int .i64 ln,.string s,.int .i64 k,.int .i64 n,.string t,b,a],.int .i64 (r:Int)] w fun e w'=>e= .returned (.bool (qi op r))∧Below w.heap.size w w':=by
 have hk:r=0∨r=1∨r=2∨r=3∨r=4∨r=5∨r=6∨r=7∨r=8:=by omega
 rcases hk with rfl|rfl|rfl|rfl|rfl|rfl|rfl|rfl|rfl
 ·exact qdl op ln s k n t b a w
 ·exact qdm op ln s k n t b a w
 ·exact qdn op ln s k n t b a w
 ·exact qdo op ln s k n t b a w
 ·exact qdp op ln s k n t b a w
 ·exact qdq op ln s k n t b a w
 ·exact qdr op ln s k n t b a w
 ·exact qds op ln s k n t b a w
 ·exact qdt op ln s k n t b a w
def xS(c:Nat):Nat:=if c=0 then 0 else if c=1 then 103 else 106
theorem QC(s:ByteArray):(s.toList.isEmpty=true∧s.toList= []∧s.size=0)∨(s.toList.isEmpty=false∧ ¬s.toList= []∧s.size≠0):=by
 have hs:s.data.toList.length=s.size:=by rw[Array.length_toList];rfl
 rcases kj s with⟨h1,h2,h3⟩|⟨h1,h2,h3⟩
 ·exact .inl ⟨h1,h2,by rw[←hs,h3];rfl⟩
 ·exact .inr ⟨h1,h2,fun e=>h3 (List.eq_nil_of_length_eq_zero (by omega))⟩
def jK(op:Int)(b:Nat)(a:Bool):Bool:=qi op b && (a||(op !=45 && op !=46))
def jl(op k n:Int)(t:ByteArray)(v:VL):Bool:=if op=1 then k !=4 && (qM k n t v 1 4096).1==0 && (k !=0||n != -9223372036854775808)else k==0 && n==0 && t.size==0 && v.len==0
theorem qeu(op:Int)(s:ByteArray)(k n:Int)(t:ByteArray)(v:VL)(m b:Nat)(a:Bool):
 jt op s k n t v m b a=if(!(jK op b a && jl op k n t v)|| !(qk op m).2||(!(jW op).1 && s.size !=0))=true then 1 else if((jW op).1 && !zD s && !((jW op).2 && s.size==0))=true then 2 else 0:=rfl
theorem qf6(op ln:Int)(s:ByteArray)(k n:Int)(t:ByteArray)(v:VL)(va:Option Addr)(vc:Nat)(sa:Option Addr)(m sc:Nat)(a:Nat)(loop:Bool)(ea:Nat→Addr)(w:World)(he:ErrsAt w ea)
 (hs:s.size≤140737488351232) (ht:t.size≤140737488351232) (hl:v.len≤140737488351232) (hf:v.fit) (hvc:v.len≤vc) (hm:m≤4096) (hr:a≤8) (hv:RpL w (fun b=>b<w.heap.size) v va):
 Calls Tryz.prog 149 #[.agg #[.int .i64 op,.int .i64 ln,.string s,.int .i64 k,.int .i64 n,.string t,.slice va v.len vc,.slice sa m sc],.int .i64 (a:Int),.bool loop] w
  fun e w'=>e= .returned (qF ea (xS (jt op s k n t v m a loop)))∧Below w.heap.size w w':=by
 have W:=he.room;obtain⟨wa,R⟩: ∃wa,wa=w.alloc (.cells #[.int .i64 op,.int .i64 ln,.string s,.int .i64 k,.int .i64 n,.string t,.slice va v.len vc,.slice sa m sc] 31):=⟨_,rfl⟩
 have hb:Below w.heap.size w wa:=by rw[R];exact(Below.refl _ _).alloc (Nat.le_refl _) _
 have G:NdB wa w.heap.size (.int .i64 op) (.int .i64 ln) (.string s) (.int .i64 k) (.int .i64 n) (.string t) (.slice va v.len vc) (.slice sa m sc):=by rw[R];exact NdB.new _ _ _ _ _ _ _ _ _
 have v0:=G.c0;have v1:=G.c1;have v2:=G.c2;have v3:=G.c3;have v4:=G.c4;have v5:=G.c5;have v6:=G.c6;have v7:=G.c7;have ac:=hid (qdu op ln s k n t (.slice va v.len vc) (.slice sa m sc) a wa hr);have HN:=hid G;have HB:=hid hb;have HWA:=hid R;have HE:=hid (he.below hb (Nat.le_of_lt W));have HV:=hid (hv.keep (w':=wa) (fun b B=>hb.block b B) (fun b B=>Nat.lt_of_lt_of_le B hb.size));have hza:24<wa.heap.size:=by have:=hb.size;omega
 clear hb G R he hv;go_enter Tryz.func149,Tryz.ntmps149
 go_upto_region 1 with fail
 rw[←HWA.out]
 go_cut [7] (fun c wx=>c= .bool (jK op a loop)∧Hid (Below wa.heap.size wa wx))
 case first=>
  go_wp2_with fail
  refine ac.out.mono ?_;rintro e w2 ⟨rfl,V⟩;have hN2:=HN.out.below' V;have x0:=hN2.c0;have E:=hid V;clear V hN2 v0 v1 v2 v3 v4 v5 v6 v7
  cases u:qi op a with
  |false=>
   have l:=hid (show jK op a loop=false by unfold jK;rw[u];rfl);clear u;go_wp2_with fail
   go_meet
   exact⟨by rw[l.out],E.out⟩
  |true=>
   cases loop with
   |true=>
    have l:=hid (show jK op a true=true by unfold jK;rw[u];rfl);clear u;go_wp2_with fail
    go_meet
    exact⟨by rw[l.out],E.out⟩
   |false=>
    by_cases C:op=45
    ·have l:=hid (show jK op a false=false by unfold jK;rw[u,C];rfl)
     have b1:(op !=45)=false:=by rw[C];rfl
     clear u C;go_wp2_with fail
     go_meet
     exact⟨by rw[l.out],E.out⟩
    have b1:=qU C;by_cases F:op=46
    ·have l:=hid (show jK op a false=false by unfold jK;rw[u,F];rfl)
     have b2:(op !=46)=false:=by rw[F];rfl
     clear u F C;go_wp2_with fail
     go_meet
     exact⟨by rw[l.out],E.out⟩
    have b2:=qU F;have l:=hid (show jK op a false=true by unfold jK;rw[u,b1,b2];rfl);clear u F C;go_wp2_with fail
    go_meet
    exact⟨by rw[l.out],E.out⟩
 case rest=>
  obtain⟨rfl,D⟩:=hcut;have q:=HN.out.below' D.out;have T:=hid q;have aa:=hid (HE.out.below D.out (Nat.le_of_lt hza));have HV3:=hid (HV.out.keep (w':=wc) (fun b B=>D.out.block b B) (fun b B=>Nat.lt_of_lt_of_le B D.out.size));have S:=hid D.out;have x0:=q.c0;have x1:=q.c1;have x2:=q.c2;have x3:=q.c3;have x4:=q.c4;have x5:=q.c5;have x6:=q.c6;have x7:=q.c7;have U:=hid (qab k n t v va vc ea wc aa.out ht hl hf hvc HV3.out);clear D q v0 v1 v2 v3 v4 v5 v6 v7 ac;have d:=hid (qeu op s k n t v m a loop);obtain⟨Y,hf1⟩: ∃Y,Y=jK op a loop:=⟨_,rfl⟩
  rw[←hf1]at d⊢;clear hf1
  go_upto_if 30 with fail
  go_cut [7] (fun c wx=>c= .bool (Y && jl op k n t v)∧Hid (Below wc.heap.size wc wx))
  case first=>
   by_cases h1:op=1
   ·have b1:(op==1)=true:=by rw[h1];rfl
    have i:=hid (show jl op k n t v=(k !=4 && (qM k n t v 1 4096).1==0 && (k !=0||n != -9223372036854775808))by unfold jl;rw[if_pos h1]);clear h1
    cases Y with
    |false=>
     go_wp2_with fail
     go_meet
     exact⟨rfl,Below.refl _ _⟩
    |true=>
     by_cases h4:k=4
     ·have b4:(k !=4)=false:=by rw[h4];rfl
      have l:=hid (show(true && jl op k n t v)=false by rw[i.out,b4];rfl);clear h4 i;go_wp2_with fail
      go_meet
      exact⟨by rw[l.out],Below.refl _ _⟩
     have b4:=qU h4;by_cases Z:(qM k n t v 1 4096).1=0
     ·have e0:qF ea (qM k n t v 1 4096).1= .nilIface:=by rw[Z];rfl
      rw[e0]at U;have H:=hid (show jl op k n t v=(k !=0||n != -9223372036854775808)by rw[i.out,b4,Z];rfl);clear h4 i Z e0;by_cases h0:k=0
      ·have J:(k !=0)=false:=by rw[h0];rfl
       have l:=hid (show(true && jl op k n t v)=(n != -9223372036854775808)by rw[H.out,J];simp);clear h0 H;go_wp2_with fail
       refine U.out.mono ?_;rintro e w4 ⟨rfl,r⟩;have h:=T.out.below' r;have y3:=h.c3;have y4:=h.c4;have x:=hid r;clear r h x0 x1 x2 x3 x4 x5 x6 x7;go_wp2_with fail
       go_meet
       exact⟨by rw[l.out],x.out⟩
      ·have J:=qU h0
       have l:=hid (show(true && jl op k n t v)=true by rw[H.out,J];rfl);clear h0 H;go_wp2_with fail
       refine U.out.mono ?_;rintro e w4 ⟨rfl,r⟩;have h:=T.out.below' r;have y3:=h.c3;have y4:=h.c4;have x:=hid r;clear r h x0 x1 x2 x3 x4 x5 x6 x7;go_wp2_with fail
       go_meet
       exact⟨by rw[l.out],x.out⟩
     ·have e0:qF ea (qM k n t v 1 4096).1= .iface 270 (.pointer (some (ea (qM k n t v 1 4096).1))):=by unfold qF;rw[if_neg Z]
      rw[e0]at U;have l:=hid (show(true && jl op k n t v)=false by rw[i.out,b4,beq_eq_false_iff_ne.2 Z];rfl);clear h4 i Z e0;go_wp2_with fail
      refine U.out.mono ?_;rintro e w4 ⟨rfl,r⟩;have x:=hid r;clear r;go_wp2_with fail
      go_meet
      exact⟨by rw[l.out],x.out⟩
   ·have b1:=qm h1
    have i:=hid (show jl op k n t v=(k==0 && n==0 && t.size==0 && v.len==0)by unfold jl;rw[if_neg h1]);clear h1 U
    cases Y with
    |false=>
     go_wp2_with fail
     go_meet
     exact⟨rfl,Below.refl _ _⟩
    |true=>
     by_cases h0:k=0
     case neg=>
      have J:=qm h0;have l:=hid (show(true && jl op k n t v)=false by rw[i.out,J];rfl);clear h0 i;go_wp2_with fail
      go_meet
      exact⟨by rw[l.out],Below.refl _ _⟩
     have J:(k==0)=true:=by rw[h0];rfl
     by_cases hn:n=0
     case neg=>
      have bn:=qm hn;have l:=hid (show(true && jl op k n t v)=false by rw[i.out,J,bn];rfl);clear h0 i hn;go_wp2_with fail
      go_meet
      exact⟨by rw[l.out],Below.refl _ _⟩
     have bn:(n==0)=true:=by rw[hn];rfl
     rcases QC t with⟨g1,g2,y⟩|⟨g1,g2,y⟩
     case inr=>
      have l:=hid (show(true && jl op k n t v)=false by rw[i.out,J,bn,beq_eq_false_iff_ne.2 y];rfl);clear h0 i hn y;go_wp2_with fail
      go_meet
      exact⟨by rw[l.out],Below.refl _ _⟩
     have l:=hid (show(true && jl op k n t v)=((v.len:Int)==0)by rw[i.out,J,bn,y,show(0:Int)=((0:Nat):Int)from rfl,qS];simp);clear h0 i hn y;go_wp2_with fail
     go_meet
     exact⟨by rw[l.out],Below.refl _ _⟩
  case rest=>
   obtain⟨rfl,N⟩:=hcut;have h:=T.out.below' N.out;have HN4:=hid h;have ab:=hid (aa.out.below N.out (by have:=S.out.size;omega));have RC:=hid (K6 op ln s k n t (.slice va v.len vc) sa m sc wc hm);have y0:=h.c0;have y1:=h.c1;have y2:=h.c2;have y3:=h.c3;have y4:=h.c4;have y5:=h.c5;have y6:=h.c6;have y7:=h.c7;have x:=hid (HB.out.trans (qc (S.out.trans (qc N.out S.out.size)) HB.out.size));clear N h x0 x1 x2 x3 x4 x5 x6 x7 U;obtain⟨f,hf⟩: ∃f,f=(Y && jl op k n t v):=⟨_,rfl⟩
   rw[←hf]at d⊢;clear hf;go_wp2_with fail
   refine RC.out.mono ?_;rintro e w5 ⟨rv,rfl,hro,M⟩;have K:=HN4.out.below' (qc M (Nat.le_refl _));have I:=hid K;have o:=hid (ab.out.below M (Nat.le_of_lt ab.out.room));have j:=hid (x.out.trans (qc M x.out.size));have z0:=K.c0;have z2:=K.c2;clear hro M K y0 y1 y2 y3 y4 y5 y6 y7 RC;go_wp2_with fail
   refine(qet op w5).mono ?_;rintro e w6 ⟨rfl,rfl⟩;have X:=hid (qes s w5 hs)
   cases f with
   |false=>
    have es:=o.out.shape;have A:=hid (show qF ea (xS (jt op s k n t v m a loop))= .iface 270 (.pointer (some (ea 103)))by rw[d.out];rfl);clear d;go_wp2_with fail
    go_ret
    exact⟨qn A.out.symm,j.out⟩
   |true=>
    cases L:(qk op m).2 with
    |false=>
     rw[L]at d;clear L;have es:=o.out.shape;have A:=hid (show qF ea (xS (jt op s k n t v m a loop))= .iface 270 (.pointer (some (ea 103)))by rw[d.out];rfl);clear d;go_wp2_with fail
     go_ret
     exact⟨qn A.out.symm,j.out⟩
    |true=>
     rw[L]at d;clear L
     cases O:(jW op).1 with
     |false=>
      rw[O]at d;clear O;rcases QC s with⟨g1,g2,y⟩|⟨g1,g2,y⟩
      ·rw[y]at d
       clear y;have A:=hid (show qF ea (xS (jt op s k n t v m a loop))= .nilIface by rw[d.out];rfl);clear d;go_wp2_with fail
       go_ret
       exact⟨qn A.out.symm,j.out⟩
      ·have b3:=bne_iff_ne.2 y
       rw[b3]at d;clear y;have es:=o.out.shape;have A:=hid (show qF ea (xS (jt op s k n t v m a loop))= .iface 270 (.pointer (some (ea 103)))by rw[d.out];rfl);clear d;go_wp2_with fail
       go_ret
       exact⟨qn A.out.symm,j.out⟩
     |true=>
      rw[O]at d;clear O
      cases Q:zD s with
      |true=>
       rw[Q]at d X;clear Q;have A:=hid (show qF ea (xS (jt op s k n t v m a loop))= .nilIface by rw[d.out];rfl);clear d;go_wp2_with fail
       refine X.out.mono ?_;rintro e w7 ⟨rfl,g⟩;have p:=I.out.below' g;have q2:=p.c2;have en:=(o.out.below g (Nat.le_of_lt o.out.room)).name;have z:=hid (j.out.trans (qc g j.out.size));clear g p z0 z2;go_wp2_with fail
       go_ret
       exact⟨qn A.out.symm,z.out⟩
      |false=>
       rw[Q]at d X;clear Q
       cases P:(jW op).2 with
       |false=>
        rw[P]at d;clear P;have A:=hid (show qF ea (xS (jt op s k n t v m a loop))= .iface 270 (.pointer (some (ea 106)))by rw[d.out];rfl);clear d;go_wp2_with fail
        refine X.out.mono ?_;rintro e w7 ⟨rfl,g⟩;have p:=I.out.below' g;have q2:=p.c2;have en:=(o.out.below g (Nat.le_of_lt o.out.room)).name;have z:=hid (j.out.trans (qc g j.out.size));clear g p z0 z2;go_wp2_with fail
        go_ret
        exact⟨qn A.out.symm,z.out⟩
       |true=>
        rw[P]at d;clear P;rcases QC s with⟨g1,g2,y⟩|⟨g1,g2,y⟩
        ·rw[y]at d
         clear y;have A:=hid (show qF ea (xS (jt op s k n t v m a loop))= .nilIface by rw[d.out];rfl);clear d;go_wp2_with fail
         refine X.out.mono ?_;rintro e w7 ⟨rfl,g⟩;have p:=I.out.below' g;have q2:=p.c2;have en:=(o.out.below g (Nat.le_of_lt o.out.room)).name;have z:=hid (j.out.trans (qc g j.out.size));clear g p z0 z2;go_wp2_with fail
         go_ret
         exact⟨qn A.out.symm,z.out⟩
        ·have b3:(s.size==0)=false:=beq_eq_false_iff_ne.2 y
         rw[b3]at d;clear y;have A:=hid (show qF ea (xS (jt op s k n t v m a loop))= .iface 270 (.pointer (some (ea 106)))by rw[d.out];rfl);clear d;go_wp2_with fail
         refine X.out.mono ?_;rintro e w7 ⟨rfl,g⟩;have p:=I.out.below' g;have q2:=p.c2;have en:=(o.out.below g (Nat.le_of_lt o.out.room)).name;have z:=hid (j.out.trans (qc g j.out.size));clear g p z0 z2;go_wp2_with fail
         go_ret
         exact⟨qn A.out.symm,z.out⟩
end Go.Proofs.YtggngahmafbihaaGreatDoor
