/- Contracts, and the plain mathematics beneath. -/
import Derived.Test.YtggngahmafbihaaGreatDoorPerAI
set_option linter.unusedVariables false
set_option linter.unusedSimpArgs false
set_option maxRecDepth 100000
set_option maxHeartbeats 2000000
namespace Go.Proofs.YtggngahmafbihaaGreatDoor
open Go.RowKit Go.Lib
theorem qcZ(ln:Int)(s:ByteArray)(k n:Int)(t:ByteArray)(f:Value)(sa:Option Addr)(m sc:Nat)(w:World)(hm:m≤4096):
 Calls Tryz.prog 150 #[.agg #[.int .i64 27,.int .i64 ln,.string s,.int .i64 k,.int .i64 n,.string t,f,.slice sa m sc]] w (qp w 27 m):=by
 obtain⟨wa,a⟩: ∃wa,wa=w.alloc (.cells #[.int .i64 27,.int .i64 ln,.string s,.int .i64 k,.int .i64 n,.string t,f,.slice sa m sc] 31):=⟨_,rfl⟩
 have hb:Below w.heap.size w wa:=by rw[a];exact(Below.refl _ _).alloc (Nat.le_refl _) _
 have e:NdB wa w.heap.size (.int .i64 27) (.int .i64 ln) (.string s) (.int .i64 k) (.int .i64 n) (.string t) f (.slice sa m sc):=by rw[a];exact NdB.new _ _ _ _ _ _ _ _ _
 have v0:=e.c0;have g:=e.c7;rw[a]at v0 g;have d:=hid hb;have b:=hid a;clear hb e a;go_enter Tryz.func150,Tryz.ntmps150
 go_wp2_with fail
 rw[←b.out];go_ret2
 refine⟨_,qo (c:= .nilIface) (by rw[show(2:Int)=((2:Nat):Int)from rfl,qS];rfl),?_,d.out.alloc d.out.size _⟩;have h:=jf (cs:= #[.int .i64 2,.int .i64 0]) (n:=2) wa d.out.size (by decide) rfl;have hz:wa.heap.size=w.heap.size+1:=by rw[b.out];simp
 rw[hz]at h;exact h
theorem qc4(ln:Int)(s:ByteArray)(k n:Int)(t:ByteArray)(f:Value)(sa:Option Addr)(m sc:Nat)(w:World)(hm:m≤4096):
 Calls Tryz.prog 150 #[.agg #[.int .i64 42,.int .i64 ln,.string s,.int .i64 k,.int .i64 n,.string t,f,.slice sa m sc]] w (qp w 42 m):=by
 obtain⟨wa,a⟩: ∃wa,wa=w.alloc (.cells #[.int .i64 42,.int .i64 ln,.string s,.int .i64 k,.int .i64 n,.string t,f,.slice sa m sc] 31):=⟨_,rfl⟩
 have hb:Below w.heap.size w wa:=by rw[a];exact(Below.refl _ _).alloc (Nat.le_refl _) _
 have e:NdB wa w.heap.size (.int .i64 42) (.int .i64 ln) (.string s) (.int .i64 k) (.int .i64 n) (.string t) f (.slice sa m sc):=by rw[a];exact NdB.new _ _ _ _ _ _ _ _ _
 have v0:=e.c0;have g:=e.c7;rw[a]at v0 g;have d:=hid hb;have b:=hid a;clear hb e a;go_enter Tryz.func150,Tryz.ntmps150
 go_wp2_with fail
 rw[←b.out];go_ret2
 refine⟨_,qo (c:= .nilIface) (by rw[show(2:Int)=((2:Nat):Int)from rfl,qS];rfl),?_,d.out.alloc d.out.size _⟩;have h:=jf (cs:= #[.int .i64 0,.int .i64 6]) (n:=2) wa d.out.size (by decide) rfl;have hz:wa.heap.size=w.heap.size+1:=by rw[b.out];simp
 rw[hz]at h;exact h
theorem qc6(ln:Int)(s:ByteArray)(k n:Int)(t:ByteArray)(f:Value)(sa:Option Addr)(m sc:Nat)(w:World)(hm:m≤4096):
 Calls Tryz.prog 150 #[.agg #[.int .i64 44,.int .i64 ln,.string s,.int .i64 k,.int .i64 n,.string t,f,.slice sa m sc]] w (qp w 44 m):=by
 obtain⟨wa,a⟩: ∃wa,wa=w.alloc (.cells #[.int .i64 44,.int .i64 ln,.string s,.int .i64 k,.int .i64 n,.string t,f,.slice sa m sc] 31):=⟨_,rfl⟩
 have hb:Below w.heap.size w wa:=by rw[a];exact(Below.refl _ _).alloc (Nat.le_refl _) _
 have e:NdB wa w.heap.size (.int .i64 44) (.int .i64 ln) (.string s) (.int .i64 k) (.int .i64 n) (.string t) f (.slice sa m sc):=by rw[a];exact NdB.new _ _ _ _ _ _ _ _ _
 have v0:=e.c0;have g:=e.c7;rw[a]at v0 g;have d:=hid hb;have b:=hid a;clear hb e a;go_enter Tryz.func150,Tryz.ntmps150
 go_wp2_with fail
 rw[←b.out];go_ret2
 refine⟨_,qo (c:= .nilIface) (by rw[show(2:Int)=((2:Nat):Int)from rfl,qS];rfl),?_,d.out.alloc d.out.size _⟩;have h:=jf (cs:= #[.int .i64 0,.int .i64 6]) (n:=2) wa d.out.size (by decide) rfl;have hz:wa.heap.size=w.heap.size+1:=by rw[b.out];simp
 rw[hz]at h;exact h
theorem qda(ln:Int)(s:ByteArray)(k n:Int)(t:ByteArray)(f:Value)(sa:Option Addr)(m sc:Nat)(w:World)(hm:m≤4096):
 Calls Tryz.prog 150 #[.agg #[.int .i64 48,.int .i64 ln,.string s,.int .i64 k,.int .i64 n,.string t,f,.slice sa m sc]] w (qp w 48 m):=by
 obtain⟨wa,a⟩: ∃wa,wa=w.alloc (.cells #[.int .i64 48,.int .i64 ln,.string s,.int .i64 k,.int .i64 n,.string t,f,.slice sa m sc] 31):=⟨_,rfl⟩
 have hb:Below w.heap.size w wa:=by rw[a];exact(Below.refl _ _).alloc (Nat.le_refl _) _
 have e:NdB wa w.heap.size (.int .i64 48) (.int .i64 ln) (.string s) (.int .i64 k) (.int .i64 n) (.string t) f (.slice sa m sc):=by rw[a];exact NdB.new _ _ _ _ _ _ _ _ _
 have v0:=e.c0;have g:=e.c7;rw[a]at v0 g;have d:=hid hb;have b:=hid a;clear hb e a;go_enter Tryz.func150,Tryz.ntmps150
 go_wp2_with fail
 rw[←b.out];go_ret2
 refine⟨_,qo (c:= .nilIface) (by rw[show(2:Int)=((2:Nat):Int)from rfl,qS];rfl),?_,d.out.alloc d.out.size _⟩;have h:=jf (cs:= #[.int .i64 0,.int .i64 6]) (n:=2) wa d.out.size (by decide) rfl;have hz:wa.heap.size=w.heap.size+1:=by rw[b.out];simp
 rw[hz]at h;exact h
theorem qc5(ln:Int)(s:ByteArray)(k n:Int)(t:ByteArray)(f:Value)(sa:Option Addr)(m sc:Nat)(w:World)(hm:m≤4096):
 Calls Tryz.prog 150 #[.agg #[.int .i64 43,.int .i64 ln,.string s,.int .i64 k,.int .i64 n,.string t,f,.slice sa m sc]] w (qp w 43 m):=by
 obtain⟨wa,a⟩: ∃wa,wa=w.alloc (.cells #[.int .i64 43,.int .i64 ln,.string s,.int .i64 k,.int .i64 n,.string t,f,.slice sa m sc] 31):=⟨_,rfl⟩
 have hb:Below w.heap.size w wa:=by rw[a];exact(Below.refl _ _).alloc (Nat.le_refl _) _
 have e:NdB wa w.heap.size (.int .i64 43) (.int .i64 ln) (.string s) (.int .i64 k) (.int .i64 n) (.string t) f (.slice sa m sc):=by rw[a];exact NdB.new _ _ _ _ _ _ _ _ _
 have v0:=e.c0;have g:=e.c7;rw[a]at v0 g;have d:=hid hb;have b:=hid a;clear hb e a;go_enter Tryz.func150,Tryz.ntmps150
 go_wp2_with fail
 rw[←b.out];go_ret2
 refine⟨_,qo (c:= .nilIface) (by rw[show(3:Int)=((3:Nat):Int)from rfl,qS];rfl),?_,d.out.alloc d.out.size _⟩;have h:=jf (cs:= #[.int .i64 0,.int .i64 0,.int .i64 6]) (n:=3) wa d.out.size (by decide) rfl;have hz:wa.heap.size=w.heap.size+1:=by rw[b.out];simp
 rw[hz]at h;exact h
theorem qdc(ln:Int)(s:ByteArray)(k n:Int)(t:ByteArray)(f:Value)(sa:Option Addr)(m sc:Nat)(w:World)(hm:m≤4096):
 Calls Tryz.prog 150 #[.agg #[.int .i64 50,.int .i64 ln,.string s,.int .i64 k,.int .i64 n,.string t,f,.slice sa m sc]] w (qp w 50 m):=by
 obtain⟨wa,a⟩: ∃wa,wa=w.alloc (.cells #[.int .i64 50,.int .i64 ln,.string s,.int .i64 k,.int .i64 n,.string t,f,.slice sa m sc] 31):=⟨_,rfl⟩
 have hb:Below w.heap.size w wa:=by rw[a];exact(Below.refl _ _).alloc (Nat.le_refl _) _
 have e:NdB wa w.heap.size (.int .i64 50) (.int .i64 ln) (.string s) (.int .i64 k) (.int .i64 n) (.string t) f (.slice sa m sc):=by rw[a];exact NdB.new _ _ _ _ _ _ _ _ _
 have v0:=e.c0;have g:=e.c7;rw[a]at v0 g;have d:=hid hb;have b:=hid a;clear hb e a;go_enter Tryz.func150,Tryz.ntmps150
 go_wp2_with fail
 rw[←b.out];go_ret2
 refine⟨_,qo (c:= .nilIface) (by rw[show(2:Int)=((2:Nat):Int)from rfl,qS];rfl),?_,d.out.alloc d.out.size _⟩;have h:=jf (cs:= #[.int .i64 5,.int .i64 6]) (n:=2) wa d.out.size (by decide) rfl;have hz:wa.heap.size=w.heap.size+1:=by rw[b.out];simp
 rw[hz]at h;exact h
theorem qdd(ln:Int)(s:ByteArray)(k n:Int)(t:ByteArray)(f:Value)(sa:Option Addr)(m sc:Nat)(w:World)(hm:m≤4096):
 Calls Tryz.prog 150 #[.agg #[.int .i64 51,.int .i64 ln,.string s,.int .i64 k,.int .i64 n,.string t,f,.slice sa m sc]] w (qp w 51 m):=by
 obtain⟨wa,a⟩: ∃wa,wa=w.alloc (.cells #[.int .i64 51,.int .i64 ln,.string s,.int .i64 k,.int .i64 n,.string t,f,.slice sa m sc] 31):=⟨_,rfl⟩
 have hb:Below w.heap.size w wa:=by rw[a];exact(Below.refl _ _).alloc (Nat.le_refl _) _
 have e:NdB wa w.heap.size (.int .i64 51) (.int .i64 ln) (.string s) (.int .i64 k) (.int .i64 n) (.string t) f (.slice sa m sc):=by rw[a];exact NdB.new _ _ _ _ _ _ _ _ _
 have v0:=e.c0;have g:=e.c7;rw[a]at v0 g;have d:=hid hb;have b:=hid a;clear hb e a;go_enter Tryz.func150,Tryz.ntmps150
 go_wp2_with fail
 rw[←b.out];go_ret2
 refine⟨_,qo (c:= .nilIface) (by rw[show(2:Int)=((2:Nat):Int)from rfl,qS];rfl),?_,d.out.alloc d.out.size _⟩;have h:=jf (cs:= #[.int .i64 6,.int .i64 6]) (n:=2) wa d.out.size (by decide) rfl;have hz:wa.heap.size=w.heap.size+1:=by rw[b.out];simp
 rw[hz]at h;exact h
end Go.Proofs.YtggngahmafbihaaGreatDoor
