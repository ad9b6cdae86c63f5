/- Contracts, and the plain mathematics beneath. -/
import Derived.StillTailTactics
import Derived.Test.YtggngahmafbihaaGreatDoorPerAI
import Derived.Test.YtggngahmafbihaaGreatDoorPerAF
set_option linter.unusedVariables false
set_option linter.unusedSimpArgs false
set_option maxRecDepth 100000
set_option maxHeartbeats 2000000
namespace Go.Proofs.YtggngahmafbihaaGreatDoor
open Go.RowKit Go.Lib
theorem qcV(ln:Int)(s:ByteArray)(k n:Int)(t:ByteArray)(vv:Value)(sa:Option Addr)(m sc:Nat)(w:World)(hm:m≤4096):
 Calls Tryz.prog 150 #[.agg #[.int .i64 23,.int .i64 ln,.string s,.int .i64 k,.int .i64 n,.string t,vv,.slice sa m sc]] w (qp w 23 m):=by
 obtain⟨wa,v⟩: ∃wa,wa=w.alloc (.cells #[.int .i64 23,.int .i64 ln,.string s,.int .i64 k,.int .i64 n,.string t,vv,.slice sa m sc] 31):=⟨_,rfl⟩
 have hb:Below w.heap.size w wa:=by rw[v];exact(Below.refl _ _).alloc (Nat.le_refl _) _
 have Q:NdB wa w.heap.size (.int .i64 23) (.int .i64 ln) (.string s) (.int .i64 k) (.int .i64 n) (.string t) vv (.slice sa m sc):=by rw[v];exact NdB.new _ _ _ _ _ _ _ _ _
 have v0:=Q.c0;have v7:=Q.c7;rw[v]at v0 v7;have y:=hid hb;have E:=hid v;clear hb Q v;obtain⟨L,z,G,H,I⟩:=jZ xX;obtain⟨q,X⟩: ∃q:Nat,q=m-2:=⟨_,rfl⟩
 have K:=hid X;have hsz:wa.heap.size≤wa.heap.size:=Nat.le_refl _;by_cases hlt:m<2
 ·have h1:(m:Int)-2<0:=by omega
  have e1:IntKind.i64.wrap ((m:Int)-2)=(m:Int)-2:=IntWalk.i64_in _ (by omega);have M:=hid (fun W=>by have h:=qV 1 q W (by decide) (by omega);rw[show(q:Int)=0 by omega]at h;exact h);have Y:q≤4096:=by omega
  have V:max ((m:Int)-2) 0=0:=by omega
  clear X;go_enter Tryz.func150,Tryz.ntmps150
  go_wp2_with fail
  rw[←E.out];refine(qV 0 2 wa (by decide) (by decide)).mono ?_;rintro e w2 ⟨J,rfl,F,l⟩;have O:=hid F;have p:=hid (y.out.trans (qc l y.out.size));have aa:wa.heap.size≤w2.heap.size:=l.size;clear F l;go_wp2_with fail
  refine(M.out w2).mono ?_;rintro e w3 ⟨v2,rfl,j,i⟩;have f:=hid (p.out.trans (qc i p.out.size));have a:=hid (zL O.out i);have N:=hid j;have D:wa.heap.size≤w3.heap.size:=by have:=f.out.size;have:=a.out;have:=i.size;omega
  clear i;rcases j.2 with⟨rfl,A⟩|⟨g,cap,P,rfl,R,U,Z,S,T,B⟩
  ·clear j
   go_wp2_with (at_builtin;refine wpList_append_own_none rfl (.tmp 61) (.tmp 66) 24 rfl wa.heap.size 3 L 1 Tryz.underlying24 z J 2 (qY (List.replicate 2 0)) rfl a.out rfl ?_)
   go_ret2
   exact⟨_,qo (c:= .nilIface) (by rw[show(qk 23 m).2=decide (2≤m)from rfl, ←xt];rfl),by
    have h:=qs a.out y.out.size;have e:(qk 23 m).1= [0,0]:=by rw[show(qk 23 m).1= [0,0]++List.replicate (m-2) 1 from rfl, ←K.out,A];rfl
    rw[e];exact h,f.out⟩
  ·clear j U B
   go_wp2_with (at_builtin;refine wpList_append_own _ rfl (.tmp 61) (.tmp 66) 24 rfl wa.heap.size 3 L (.int .i64 0) 1 8 Tryz.underlying24 z G H I rfl (by decide) J 2 (qY (List.replicate 2 0)) rfl a.out ⟨g,0,none⟩ q cap (qY (List.replicate q 1)) rfl (by rw[xf,List.length_replicate];omega) (N.out.cells (g:=g) rfl) ?c2 ?c3 ?c4 ?c5 ?c6
                case c2=>intro u C;unfold qY at C;rw[List.mem_map]at C;obtain⟨x,_,rfl⟩:=C;rfl
                case c3=>unfold maxLen;omega
                case c4=>omega
                case c5=>exact D
                intro v' w11 d b _;have o:=hid (zq f.out f.out.size b (fun k hk=>Nat.le_trans y.out.size (xm a.out k hk)));have r:=hid d
                clear d b)
   go_ret2
   exact⟨_,qo (c:= .nilIface) (by rw[show(qk 23 m).2=decide (2≤m)from rfl, ←xt];rfl),by
    have h:=qs r.out y.out.size;have e:(qk 23 m).1= [0,0]++List.replicate q 1:=by rw[show(qk 23 m).1= [0,0]++List.replicate (m-2) 1 from rfl, ←K.out]
    rw[e,jC,List.length_append,List.length_replicate];exact h,o.out⟩
 ·have h1:(0:Int)≤(m:Int)-2:=by omega
  have e1:IntKind.i64.wrap ((m:Int)-2)=(m:Int)-2:=IntWalk.i64_in _ (by omega);have M:=hid (fun W=>by have h:=qV 1 q W (by decide) (by omega);rw[show(q:Int)=(m:Int)-2 by omega]at h;exact h);have Y:q≤4096:=by omega
  have V:max ((m:Int)-2) 0=(m:Int)-2:=by omega
  clear X;go_enter Tryz.func150,Tryz.ntmps150
  go_wp2_with fail
  rw[←E.out];refine(qV 0 2 wa (by decide) (by decide)).mono ?_;rintro e w2 ⟨J,rfl,F,l⟩;have O:=hid F;have p:=hid (y.out.trans (qc l y.out.size));have aa:wa.heap.size≤w2.heap.size:=l.size;clear F l;go_wp2_with fail
  refine(M.out w2).mono ?_;rintro e w3 ⟨v2,rfl,j,i⟩;have f:=hid (p.out.trans (qc i p.out.size));have a:=hid (zL O.out i);have N:=hid j;have D:wa.heap.size≤w3.heap.size:=by have:=f.out.size;have:=a.out;have:=i.size;omega
  clear i;rcases j.2 with⟨rfl,A⟩|⟨g,cap,P,rfl,R,U,Z,S,T,B⟩
  ·clear j
   go_wp2_with (at_builtin;refine wpList_append_own_none rfl (.tmp 61) (.tmp 66) 24 rfl wa.heap.size 3 L 1 Tryz.underlying24 z J 2 (qY (List.replicate 2 0)) rfl a.out rfl ?_)
   go_ret2
   exact⟨_,qo (c:= .nilIface) (by rw[show(qk 23 m).2=decide (2≤m)from rfl, ←xt];rfl),by
    have h:=qs a.out y.out.size;have e:(qk 23 m).1= [0,0]:=by rw[show(qk 23 m).1= [0,0]++List.replicate (m-2) 1 from rfl, ←K.out,A];rfl
    rw[e];exact h,f.out⟩
  ·clear j U B
   go_wp2_with (at_builtin;refine wpList_append_own _ rfl (.tmp 61) (.tmp 66) 24 rfl wa.heap.size 3 L (.int .i64 0) 1 8 Tryz.underlying24 z G H I rfl (by decide) J 2 (qY (List.replicate 2 0)) rfl a.out ⟨g,0,none⟩ q cap (qY (List.replicate q 1)) rfl (by rw[xf,List.length_replicate];omega) (N.out.cells (g:=g) rfl) ?d2 ?d3 ?d4 ?d5 ?d6
                case d2=>intro u C;unfold qY at C;rw[List.mem_map]at C;obtain⟨x,_,rfl⟩:=C;rfl
                case d3=>unfold maxLen;omega
                case d4=>omega
                case d5=>exact D
                intro v' w11 d b _;have o:=hid (zq f.out f.out.size b (fun k hk=>Nat.le_trans y.out.size (xm a.out k hk)));have r:=hid d
                clear d b)
   go_ret2
   exact⟨_,qo (c:= .nilIface) (by rw[show(qk 23 m).2=decide (2≤m)from rfl, ←xt];rfl),by
    have h:=qs r.out y.out.size;have e:(qk 23 m).1= [0,0]++List.replicate q 1:=by rw[show(qk 23 m).1= [0,0]++List.replicate (m-2) 1 from rfl, ←K.out]
    rw[e,jC,List.length_append,List.length_replicate];exact h,o.out⟩
theorem qdb(ln:Int)(s:ByteArray)(k n:Int)(t:ByteArray)(vv:Value)(sa:Option Addr)(m sc:Nat)(w:World)(hm:m≤4096):
 Calls Tryz.prog 150 #[.agg #[.int .i64 49,.int .i64 ln,.string s,.int .i64 k,.int .i64 n,.string t,vv,.slice sa m sc]] w (qp w 49 m):=by
 obtain⟨wa,v⟩: ∃wa,wa=w.alloc (.cells #[.int .i64 49,.int .i64 ln,.string s,.int .i64 k,.int .i64 n,.string t,vv,.slice sa m sc] 31):=⟨_,rfl⟩
 have hb:Below w.heap.size w wa:=by rw[v];exact(Below.refl _ _).alloc (Nat.le_refl _) _
 have Q:NdB wa w.heap.size (.int .i64 49) (.int .i64 ln) (.string s) (.int .i64 k) (.int .i64 n) (.string t) vv (.slice sa m sc):=by rw[v];exact NdB.new _ _ _ _ _ _ _ _ _
 have v0:=Q.c0;have v7:=Q.c7;rw[v]at v0 v7;have y:=hid hb;have z:=hid v;clear hb Q v;obtain⟨L,A,H,I,J⟩:=jZ xX;obtain⟨q,X⟩: ∃q:Nat,q=m-1:=⟨_,rfl⟩
 have K:=hid X;have hsz:wa.heap.size≤wa.heap.size:=Nat.le_refl _;by_cases hlt:m<1
 ·have h1:(m:Int)-1<0:=by omega
  have e1:IntKind.i64.wrap ((m:Int)-1)=(m:Int)-1:=IntWalk.i64_in _ (by omega);have M:=hid (fun W=>by have h:=qV 8 q W (by decide) (by omega);rw[show(q:Int)=0 by omega]at h;exact h);have Y:q≤4096:=by omega
  have V:max ((m:Int)-1) 0=0:=by omega
  clear X;go_enter Tryz.func150,Tryz.ntmps150
  go_wp2_with fail
  rw[←z.out];obtain⟨w2,f⟩: ∃w2,w2=wa.alloc (.cells #[.int .i64 6] 3):=⟨_,rfl⟩
  have O:=hid (show w2.ownsRow wa.heap.size 3 1 (.slice (some ⟨w.heap.size+1,0,none⟩) 1 1) 1 (qY [6])by
   rw[f];have h:=jf (cs:= #[.int .i64 6]) (n:=1) wa (Nat.le_refl _) (by decide) rfl;have hz:wa.heap.size=w.heap.size+1:=by rw[z.out];simp
   rw[hz]at h⊢
   exact h)
  have p:=hid (show Below w.heap.size w w2 by rw[f];exact y.out.alloc y.out.size _);have G:wa.heap.size≤w2.heap.size:=by rw[f];simp
  have B:=hid f;rw[←B.out];clear f;refine(M.out w2).mono ?_;rintro e w3 ⟨v2,rfl,l,j⟩;have i:=hid (p.out.trans (qc j p.out.size));have a:=hid (zL O.out j);have N:=hid l;have F:wa.heap.size≤w3.heap.size:=by have:=i.out.size;have:=a.out;have:=j.size;omega
  clear j;rcases l.2 with⟨rfl,C⟩|⟨g,cap,P,rfl,R,U,Z,S,T,D⟩
  ·clear l
   go_wp2_with (at_builtin;refine wpList_append_own_none rfl (.tmp 161) (.tmp 166) 24 rfl wa.heap.size 3 L 1 Tryz.underlying24 A (.slice (some ⟨w.heap.size+1,0,none⟩) 1 1) 1 (qY [6]) rfl a.out rfl ?_)
   go_ret2
   exact⟨_,qo (c:= .nilIface) (by rw[show(qk 49 m).2=decide (2≤m)from rfl, ←xt];rfl),by
    have h:=qs a.out y.out.size;have e:(qk 49 m).1= [6]:=by rw[show(qk 49 m).1= [6]++List.replicate (m-1) 8 from rfl, ←K.out,C];rfl
    rw[e];exact h,i.out⟩
  ·clear l U D
   go_wp2_with (at_builtin;refine wpList_append_own _ rfl (.tmp 161) (.tmp 166) 24 rfl wa.heap.size 3 L (.int .i64 0) 1 8 Tryz.underlying24 A H I J rfl (by decide) (.slice (some ⟨w.heap.size+1,0,none⟩) 1 1) 1 (qY [6]) rfl a.out ⟨g,0,none⟩ q cap (qY (List.replicate q 8)) rfl (by rw[xf,List.length_replicate];omega) (N.out.cells (g:=g) rfl) ?c2 ?c3 ?c4 ?c5 ?c6
                case c2=>intro u E;unfold qY at E;rw[List.mem_map]at E;obtain⟨x,_,rfl⟩:=E;rfl
                case c3=>unfold maxLen;omega
                case c4=>omega
                case c5=>exact F
                intro v' w11 d b _;have o:=hid (zq i.out i.out.size b (fun k hk=>Nat.le_trans y.out.size (xm a.out k hk)));have r:=hid d
                clear d b)
   go_ret2
   exact⟨_,qo (c:= .nilIface) (by rw[show(qk 49 m).2=decide (2≤m)from rfl, ←xt];rfl),by
    have h:=qs r.out y.out.size;have e:(qk 49 m).1= [6]++List.replicate q 8:=by rw[show(qk 49 m).1= [6]++List.replicate (m-1) 8 from rfl, ←K.out]
    rw[e,jC,List.length_append,List.length_replicate];exact h,o.out⟩
 ·have h1:(0:Int)≤(m:Int)-1:=by omega
  have e1:IntKind.i64.wrap ((m:Int)-1)=(m:Int)-1:=IntWalk.i64_in _ (by omega);have M:=hid (fun W=>by have h:=qV 8 q W (by decide) (by omega);rw[show(q:Int)=(m:Int)-1 by omega]at h;exact h);have Y:q≤4096:=by omega
  have V:max ((m:Int)-1) 0=(m:Int)-1:=by omega
  clear X;go_enter Tryz.func150,Tryz.ntmps150
  go_wp2_with fail
  rw[←z.out];obtain⟨w2,f⟩: ∃w2,w2=wa.alloc (.cells #[.int .i64 6] 3):=⟨_,rfl⟩
  have O:=hid (show w2.ownsRow wa.heap.size 3 1 (.slice (some ⟨w.heap.size+1,0,none⟩) 1 1) 1 (qY [6])by
   rw[f];have h:=jf (cs:= #[.int .i64 6]) (n:=1) wa (Nat.le_refl _) (by decide) rfl;have hz:wa.heap.size=w.heap.size+1:=by rw[z.out];simp
   rw[hz]at h⊢
   exact h)
  have p:=hid (show Below w.heap.size w w2 by rw[f];exact y.out.alloc y.out.size _);have G:wa.heap.size≤w2.heap.size:=by rw[f];simp
  have B:=hid f;rw[←B.out];clear f;refine(M.out w2).mono ?_;rintro e w3 ⟨v2,rfl,l,j⟩;have i:=hid (p.out.trans (qc j p.out.size));have a:=hid (zL O.out j);have N:=hid l;have F:wa.heap.size≤w3.heap.size:=by have:=i.out.size;have:=a.out;have:=j.size;omega
  clear j;rcases l.2 with⟨rfl,C⟩|⟨g,cap,P,rfl,R,U,Z,S,T,D⟩
  ·clear l
   go_wp2_with (at_builtin;refine wpList_append_own_none rfl (.tmp 161) (.tmp 166) 24 rfl wa.heap.size 3 L 1 Tryz.underlying24 A (.slice (some ⟨w.heap.size+1,0,none⟩) 1 1) 1 (qY [6]) rfl a.out rfl ?_)
   go_ret2
   exact⟨_,qo (c:= .nilIface) (by rw[show(qk 49 m).2=decide (2≤m)from rfl, ←xt];rfl),by
    have h:=qs a.out y.out.size;have e:(qk 49 m).1= [6]:=by rw[show(qk 49 m).1= [6]++List.replicate (m-1) 8 from rfl, ←K.out,C];rfl
    rw[e];exact h,i.out⟩
  ·clear l U D
   go_wp2_with (at_builtin;refine wpList_append_own _ rfl (.tmp 161) (.tmp 166) 24 rfl wa.heap.size 3 L (.int .i64 0) 1 8 Tryz.underlying24 A H I J rfl (by decide) (.slice (some ⟨w.heap.size+1,0,none⟩) 1 1) 1 (qY [6]) rfl a.out ⟨g,0,none⟩ q cap (qY (List.replicate q 8)) rfl (by rw[xf,List.length_replicate];omega) (N.out.cells (g:=g) rfl) ?d2 ?d3 ?d4 ?d5 ?d6
                case d2=>intro u E;unfold qY at E;rw[List.mem_map]at E;obtain⟨x,_,rfl⟩:=E;rfl
                case d3=>unfold maxLen;omega
                case d4=>omega
                case d5=>exact F
                intro v' w11 d b _;have o:=hid (zq i.out i.out.size b (fun k hk=>Nat.le_trans y.out.size (xm a.out k hk)));have r:=hid d
                clear d b)
   go_ret2
   exact⟨_,qo (c:= .nilIface) (by rw[show(qk 49 m).2=decide (2≤m)from rfl, ←xt];rfl),by
    have h:=qs r.out y.out.size;have e:(qk 49 m).1= [6]++List.replicate q 8:=by rw[show(qk 49 m).1= [6]++List.replicate (m-1) 8 from rfl, ←K.out]
    rw[e,jC,List.length_append,List.length_replicate];exact h,o.out⟩
def ZQ(N:Nat):Prop:= ∀(a c:VL)(sa g:Option Addr)(d f:Nat)(w:World),a.size<N→a.len≤140737488351232→c.len≤140737488351232→a.fit→c.fit→a.len≤d→c.len≤f→RpL w (fun b=>b<w.heap.size) a sa→RpL w (fun b=>b<w.heap.size) c g→
 Calls Tryz.prog 62 #[.slice sa a.len d,.slice g c.len f] w fun e w'=>e= .returned (.bool (jg a c))∧Below w.heap.size w w'
theorem KI(a b:Int):(a==b)=decide (a=b):=by
 by_cases h:a=b
 ·subst h;simp
 ·rw[decide_eq_false h,beq_eq_false_iff_ne];exact h
theorem qdi(a b:ByteArray):(a.toList==b.toList)=decide (a=b):=by
 by_cases h:a=b
 ·subst h;simp
 ·rw[decide_eq_false h];exact qgz h
theorem X8(k n:Int)(s:ByteArray)(a:VL)(sa:Option Addr)(p:Nat)(k' n':Int)(s':ByteArray)(a':VL)(j:Option Addr)(i:Nat)(w:World)(K:ZQ (a.size+1))
 (hf:(zv k n s a).fit) (y:(zv k' n' s' a').fit) (hc:a.len≤p) (hc':a'.len≤i) (hr:RpL w (fun b=>b<w.heap.size) a sa) (z:RpL w (fun b=>b<w.heap.size) a' j):
 Calls Tryz.prog 29 #[.agg #[.int .i64 k,.int .i64 n,.string s,.slice sa a.len p],.agg #[.int .i64 k',.int .i64 n',.string s',.slice j a'.len i]] w fun e w'=>e= .returned (.bool (QK k n s a k' n' s' a'))∧Below w.heap.size w w':=by
 obtain⟨wa,g⟩: ∃wa,wa=(w.alloc (.cells #[.int .i64 k,.int .i64 n,.string s,.slice sa a.len p] 28)).alloc (.cells #[.int .i64 k',.int .i64 n',.string s',.slice j a'.len i] 28):=⟨_,rfl⟩
 have o:Below w.heap.size w wa:=by rw[g];exact((Below.refl _ _).alloc (Nat.le_refl _) _).alloc (by simp) _
 have A:wa.heap.size=w.heap.size+2:=by rw[g];simp
 have F:StB wa w.heap.size (.int .i64 k) (.int .i64 n) (.string s) (.slice sa a.len p):=by rw[g];exact(StB.new w _ _ _ _).alloc _
 have hV':StB wa (w.heap.size+1) (.int .i64 k') (.int .i64 n') (.string s') (.slice j a'.len i):=by
  rw[g];have:=StB.new (w.alloc (.cells #[.int .i64 k,.int .i64 n,.string s,.slice sa a.len p] 28)) (.int .i64 k') (.int .i64 n') (.string s') (.slice j a'.len i)
  simpa using this
 have r:=hid (K a a' sa j p i wa (by omega) hf.2.1 y.2.1 hf.2.2.1 y.2.2.1 hc hc' (hr.keep (fun b hb=>o.block b hb) (fun b hb=>by omega)) (z.keep (fun b hb=>o.block b hb) (fun b hb=>by omega)));have B:=F.c3;have v3':=hV'.c3;rw[g]at B v3';have C:=hid F;have HV':=hid hV';have G:=hid o;have m:=hid g;have L:=hid A;have e1:=KI k k';have e2:=KI n n';have e3:=qdi s s';have H:=hid (show QK k n s a k' n' s' a'=(jg a a' && decide (k=k') && decide (n=n') && decide (s=s'))from rfl);rw[H.out];obtain⟨q,J⟩: ∃q,q=jg a a':=⟨_,rfl⟩
 obtain⟨D,u⟩: ∃D,D=decide (k=k'):=⟨_,rfl⟩
 obtain⟨E,v⟩: ∃E,E=decide (n=n'):=⟨_,rfl⟩
 obtain⟨I,x⟩: ∃I,I=decide (s=s'):=⟨_,rfl⟩
 rw[←J]at r⊢;rw[←u]at e1⊢;rw[←v]at e2⊢;rw[←x]at e3⊢;clear o A F hV' g hr z J u v x H K;have t: ∀w5,Below wa.heap.size wa w5→Below w.heap.size w w5:=fun w5 h=>G.out.trans (qc h G.out.size);have l:=hid t;clear t
 cases q with
 |false=>
  clear e1 e2 e3;go_enter Tryz.func29,Tryz.ntmps29
  go_wp2_with fail
  rw[←m.out];refine r.out.mono ?_;rintro e w5 ⟨rfl,c⟩;have f:=hid (l.out _ c);clear c;go_wp2_with fail
  go_ret
  exact⟨rfl,f.out⟩
 |true=>
  cases D with
  |false=>
   clear e2 e3;go_enter Tryz.func29,Tryz.ntmps29
   go_wp2_with fail
   rw[←m.out];refine r.out.mono ?_;rintro e w5 ⟨rfl,c⟩;have d:=C.out.below' c;have hv5':=HV'.out.below' c;have u0:=d.c0;have u0':=hv5'.c0;have f:=hid (l.out _ c);clear c d hv5' B v3';go_wp2_with fail
   go_ret
   exact⟨rfl,f.out⟩
  |true=>
   cases E with
   |false=>
    clear e3;go_enter Tryz.func29,Tryz.ntmps29
    go_wp2_with fail
    rw[←m.out];refine r.out.mono ?_;rintro e w5 ⟨rfl,c⟩;have d:=C.out.below' c;have hv5':=HV'.out.below' c;have u0:=d.c0;have u0':=hv5'.c0;have u1:=d.c1;have u1':=hv5'.c1;have f:=hid (l.out _ c);clear c d hv5' B v3';go_wp2_with fail
    go_ret
    exact⟨rfl,f.out⟩
   |true=>
    go_enter Tryz.func29,Tryz.ntmps29
    go_wp2_with fail
    rw[←m.out];refine r.out.mono ?_;rintro e w5 ⟨rfl,c⟩;have d:=C.out.below' c;have hv5':=HV'.out.below' c;have u0:=d.c0;have u0':=hv5'.c0;have u1:=d.c1;have u1':=hv5'.c1;have u2:=d.c2;have u2':=hv5'.c2;have f:=hid (l.out _ c);clear c d hv5' B v3';go_wp2_with fail
    go_ret
    exact⟨qw (by simp),f.out⟩
end Go.Proofs.YtggngahmafbihaaGreatDoor
