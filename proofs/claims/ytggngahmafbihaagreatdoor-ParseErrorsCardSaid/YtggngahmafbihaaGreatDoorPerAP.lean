/- Contracts, and the plain mathematics beneath. -/
import Derived.Deep.AppendLies
import Derived.Test.YtggngahmafbihaaGreatDoorPerAI
import Derived.Test.YtggngahmafbihaaGreatDoorPerAH
set_option linter.unusedVariables false
set_option linter.unusedSimpArgs false
set_option maxRecDepth 100000
set_option maxHeartbeats 2000000
namespace Go.Proofs.YtggngahmafbihaaGreatDoor
open Go.RowKit Go.Lib
theorem qbH(ln:Int)(s:ByteArray)(k n:Int)(t:ByteArray)(D:Value)(sa:Option Addr)(m sc:Nat)(w:World)(hm:m<2):
 Calls Tryz.prog 150 #[.agg #[.int .i64 28,.int .i64 ln,.string s,.int .i64 k,.int .i64 n,.string t,D,.slice sa m sc]] w (qp w 28 m):=by
 obtain⟨wa,i⟩: ∃wa,wa=w.alloc (.cells #[.int .i64 28,.int .i64 ln,.string s,.int .i64 k,.int .i64 n,.string t,D,.slice sa m sc] 31):=⟨_,rfl⟩
 have hb:Below w.heap.size w wa:=by rw[i];exact(Below.refl _ _).alloc (Nat.le_refl _) _
 have A:NdB wa w.heap.size (.int .i64 28) (.int .i64 ln) (.string s) (.int .i64 k) (.int .i64 n) (.string t) D (.slice sa m sc):=by rw[i];exact NdB.new _ _ _ _ _ _ _ _ _
 have v0:=A.c0;have I:=A.c7;rw[i]at v0 I;have j:=hid hb;have o:=hid i;clear hb A i;obtain⟨H,p,v,x,y⟩:=jZ xX
 have z:=hid (show qk 28 m=([0],false)by
  have:m=0∨m=1:=by omega
  rcases this with rfl|rfl<;>rfl)
 have h1:(m:Int)-1≤0:=by omega
 have e1:IntKind.i64.wrap ((m:Int)-1)=(m:Int)-1:=IntWalk.i64_in _ (by omega);have J: ¬((1:Int)<(m:Int)):=by omega
 have G: ¬((2:Int)≤(m:Int)):=by omega
 have g3:(m:Int)-1=0∨(m:Int)-1= -1:=by omega
 have F:=hid (fun W=>qV 3 0 W (by decide) (by decide));rcases g3 with g3|g3
 ·go_enter Tryz.func150,Tryz.ntmps150
  go_wp2_with fail
  rw[←o.out];refine(F.out wa).mono ?_;rintro e w2 ⟨C,rfl,q,f⟩;have l:=hid q;have d:=hid (j.out.trans (qc f j.out.size));have B:wa.heap.size≤w2.heap.size:=f.size;clear q f
  go_wp2_with (at_builtin;refine wpList_append_own _ rfl (.tmp 94) (.tmp 95) 24 rfl wa.heap.size 3 H (.int .i64 0) 1 8 Tryz.underlying24 p v x y rfl (by decide) C 0 (qY (List.replicate 0 3)) rfl (zL l.out ((Below.refl _ _).alloc (Nat.le_refl _) _)) ⟨w2.heap.size,0,none⟩ 1 1 [.int .i64 0] rfl rfl ?c1 ?c2 ?c3 ?c4 ?c5 ?c6
               case c1=>exact cell_one_new _ _ _
               case c2=>intro u r;simp at r;subst r;rfl
               case c3=>decide
               case c4=>decide
               case c5=>simp;omega
               intro v' E b a _;have g:=hid (zq (d.out.alloc d.out.size _) (by have:=d.out.size;simp;omega) a (fun k hk=>Nat.le_trans j.out.size (xm l.out k hk)));have h:=hid b
               clear b a)
  go_ret2
  rw[show qp w 28 m=qp w 28 m from rfl];refine⟨v',?_,?_,g.out⟩
  ·rw[z.out];exact qo (c:= .nilIface) (by first|rfl|simp[G])
  ·rw[z.out];exact qs h.out j.out.size
 ·go_enter Tryz.func150,Tryz.ntmps150
  go_wp2_with fail
  rw[←o.out];refine(F.out wa).mono ?_;rintro e w2 ⟨C,rfl,q,f⟩;have l:=hid q;have d:=hid (j.out.trans (qc f j.out.size));have B:wa.heap.size≤w2.heap.size:=f.size;clear q f
  go_wp2_with (at_builtin;refine wpList_append_own _ rfl (.tmp 94) (.tmp 95) 24 rfl wa.heap.size 3 H (.int .i64 0) 1 8 Tryz.underlying24 p v x y rfl (by decide) C 0 (qY (List.replicate 0 3)) rfl (zL l.out ((Below.refl _ _).alloc (Nat.le_refl _) _)) ⟨w2.heap.size,0,none⟩ 1 1 [.int .i64 0] rfl rfl ?d1 ?d2 ?d3 ?d4 ?d5 ?d6
               case d1=>exact cell_one_new _ _ _
               case d2=>intro u r;simp at r;subst r;rfl
               case d3=>decide
               case d4=>decide
               case d5=>simp;omega
               intro v' E b a _;have g:=hid (zq (d.out.alloc d.out.size _) (by have:=d.out.size;simp;omega) a (fun k hk=>Nat.le_trans j.out.size (xm l.out k hk)));have h:=hid b
               clear b a)
  go_ret2
  refine⟨v',?_,?_,g.out⟩
  ·rw[z.out];exact qo (c:= .nilIface) (by first|rfl|simp[G])
  ·rw[z.out];exact qs h.out j.out.size
theorem qeT(j:Nat):(qY (List.replicate (j+1) 3)).set j (.int .i64 4)=qY (List.replicate j 3++ [4]):=by
 rw[List.replicate_succ',jC,jC,List.set_append_right _ _ (by rw[xf,List.length_replicate];exact Nat.le_refl _),xf,List.length_replicate,Nat.sub_self];rfl
theorem qbG(ln:Int)(s:ByteArray)(k n:Int)(t:ByteArray)(F:Value)(sa:Option Addr)(m sc:Nat)(w:World)(hm:m≤4096)(B:2≤m):
 Calls Tryz.prog 150 #[.agg #[.int .i64 28,.int .i64 ln,.string s,.int .i64 k,.int .i64 n,.string t,F,.slice sa m sc]] w (qp w 28 m):=by
 obtain⟨wa,d⟩: ∃wa,wa=w.alloc (.cells #[.int .i64 28,.int .i64 ln,.string s,.int .i64 k,.int .i64 n,.string t,F,.slice sa m sc] 31):=⟨_,rfl⟩
 have hb:Below w.heap.size w wa:=by rw[d];exact(Below.refl _ _).alloc (Nat.le_refl _) _
 have z:NdB wa w.heap.size (.int .i64 28) (.int .i64 ln) (.string s) (.int .i64 k) (.int .i64 n) (.string t) F (.slice sa m sc):=by rw[d];exact NdB.new _ _ _ _ _ _ _ _ _
 have v0:=z.c0;have S:=z.c7;rw[d]at v0 S;have p:=hid hb;have y:=hid d;clear hb z d;obtain⟨R,A,C,D,E⟩:=jZ xX;obtain⟨j,M⟩: ∃j:Nat,m=j+2:=⟨m-2,by omega⟩
 have G:=hid (show qk 28 m=(List.replicate j 3++ [4]++ [0],true)by
  have h1:(qk 28 m).1=(List.replicate (m-2) 3++(if 1<m then [4]else []))++ [0]:=rfl;have h2:(qk 28 m).2=decide (2≤m):=rfl;rw[if_pos (by omega),show m-2=j by omega]at h1;rw[decide_eq_true B]at h2
  rw[←h1, ←h2])
 have h1:(m:Int)-1=((j+1:Nat):Int):=by omega
 have h0:(0:Int)≤((j+1:Nat):Int):=by omega
 have h2:(m:Int)-2=(j:Int):=by omega
 have e1:IntKind.i64.wrap ((m:Int)-1)=((j+1:Nat):Int):=by rw[h1];exact IntWalk.i64_in _ (by omega)
 have e2:IntKind.i64.wrap ((m:Int)-2)=(j:Int):=by rw[h2];exact IntWalk.i64_in _ (by omega)
 have Y:(1:Int)<(m:Int):=by omega
 have K:(2:Int)≤(m:Int):=by omega
 have Z:j<j+1:=by omega
 have P:max ((j+1:Nat):Int) 0=((j+1:Nat):Int):=by omega
 have H:max ((j:Int)+1) 0=(j:Int)+1:=by omega
 have J:=hid (fun W=>qV 3 (j+1) W (by decide) (by omega));have N:j≤4096:=by omega
 clear h1 h2 M;go_enter Tryz.func150,Tryz.ntmps150
 go_wp2_with fail
 rw[←y.out];refine(J.out wa).mono ?_;rintro e w2 ⟨v1,rfl,o,i⟩;obtain⟨g,cap,hv,L,O⟩:=o.form (by omega);subst hv;have U:=hid o;have r:=hid (p.out.trans (qc i p.out.size));have Q:wa.heap.size≤w2.heap.size:=i.size;have X:=o.frozenAt j;have V:w2.cell? ⟨g,j,none⟩=some (.int .i64 3):=by rw[o.cellAt j (by omega)];simp[qY]
 have l:=o.stored j (.int .i64 4);rw[qeT]at l;have x:=hid l;clear o i l
 go_wp2_with (at_builtin;refine wpList_append_own _ rfl (.tmp 94) (.tmp 95) 24 rfl wa.heap.size 3 R (.int .i64 0) 1 8 Tryz.underlying24 A C D E rfl (by decide) (.slice (some ⟨g,0,none⟩) (j+1) cap) (j+1) (qY (List.replicate j 3++ [4])) rfl (zL x.out.1 ((Below.refl _ _).alloc (Nat.le_refl _) _)) ⟨w2.heap.size,0,none⟩ 1 1 [.int .i64 0] rfl rfl ?c1 ?c2 ?c3 ?c4 ?c5 ?c6
              case c1=>have h:=cell_one_new (w2.setCell ⟨g,j,none⟩ (.int .i64 4)) (.int .i64 0) 3;rw[show(w2.setCell ⟨g,j,none⟩ (.int .i64 4)).heap.size=w2.heap.size by simp[World.setCell]]at h;exact h
              case c2=>intro u I;simp at I;subst I;rfl
              case c3=>unfold maxLen;omega
              case c4=>omega
              case c5=>have:=x.out.2.size;simp at this⊢;omega
              intro v' T b a _;have f:=zq r.out r.out.size x.out.2 (fun k hk=>by injection hk with hk;subst hk;have:=p.out.size;show w.heap.size≤g;omega);have q:=hid (zq (f.alloc f.size _) (by have:=f.size;simp at this⊢;omega) a (fun k hk=>by injection hk with hk;subst hk;have:=p.out.size;show w.heap.size≤g;omega));have v:=hid b
              clear b a f)
 go_ret2
 refine⟨v',?_,?_,q.out⟩
 ·rw[G.out];exact qo (c:= .nilIface) (by first|rfl|simp[K])
 ·rw[G.out]
  have h:=qs v.out p.out.size;rw[show qY (List.replicate j 3++ [4]++ [0])=qY (List.replicate j 3++ [4])++ [.int .i64 0]from jC _ _]
  simpa using h
theorem qc0(ln:Int)(s:ByteArray)(k n:Int)(t:ByteArray)(a:Value)(sa:Option Addr)(m sc:Nat)(w:World)(hm:m≤4096):
 Calls Tryz.prog 150 #[.agg #[.int .i64 28,.int .i64 ln,.string s,.int .i64 k,.int .i64 n,.string t,a,.slice sa m sc]] w (qp w 28 m):=by
 by_cases h:m<2
 ·exact qbH ln s k n t a sa m sc w h
 ·exact qbG ln s k n t a sa m sc w hm (by omega)
theorem qbI(op:Int)(m:Nat): ∀x∈(qk op m).1,x≤8:=by
 intro x hx;by_cases hk:(1≤op∧op≤29)∨(40≤op∧op≤52)
 ·have b:op=1∨op=2∨op=3∨op=4∨(5≤op∧op≤18)∨op=19∨op=20∨op=21∨op=22∨op=23∨op=24∨op=25∨op=26∨op=27∨op=28∨op=29∨op=40∨op=41∨op=42∨op=43∨op=44∨op=45∨op=46∨op=47∨op=48∨op=49∨op=50∨op=51∨op=52:=by omega
  rcases b with rfl|rfl|rfl|rfl|hb|rfl|rfl|rfl|rfl|rfl|rfl|rfl|rfl|rfl|rfl|rfl|rfl|rfl|rfl|rfl|rfl|rfl|rfl|rfl|rfl|rfl|rfl|rfl|rfl
  ·have e:x∈([]:List Nat):=hx
   simp at e
  ·have e:x∈([]:List Nat):=hx
   simp at e
  ·have e:x∈([0]:List Nat):=hx
   simp at e;omega
  ·have e:x∈([0]:List Nat):=hx
   simp at e;omega
  ·have e:(qk op m).1= [0,0]:=by unfold qk;rw[if_neg (by omega),if_neg (by omega),if_pos (by omega)]
   rw[e]at hx;simp at hx;omega
  ·have e:x∈([0,0,0]:List Nat):=hx
   simp at e;omega
  ·have e:x∈([0,0]:List Nat):=hx
   simp at e;omega
  ·have e:x∈([0,0,0]:List Nat):=hx
   simp at e;omega
  ·have e:x∈([0,0]:List Nat):=hx
   simp at e;omega
  ·have e:x∈ [0,0]++List.replicate (m-2) 1:=hx
   simp only[List.mem_append,List.mem_replicate,List.mem_cons,List.not_mem_nil,or_false]at e;omega
  ·have e:x∈List.replicate m 1:=hx
   rw[List.mem_replicate]at e;omega
  ·have e:x∈List.replicate m 1:=hx
   rw[List.mem_replicate]at e;omega
  ·have e:x∈([0]:List Nat):=hx
   simp at e;omega
  ·have e:x∈([2,0]:List Nat):=hx
   simp at e;omega
  ·have e:x∈(List.replicate (m-2) 3++(if 1<m then [4]else []))++ [0]:=hx
   split at e<;>simp only[List.mem_append,List.mem_replicate,List.mem_cons,List.not_mem_nil,or_false]at e<;>omega
  ·have e:x∈ [0,5,0].take (Nat.min m 3):=hx
   have e:=List.mem_of_mem_take e;simp at e;omega
  ·have e:x∈([0]:List Nat):=hx
   simp at e;omega
  ·have e:x∈(List.range m).map (fun i=>if m%2=1∧i=m-1 then 6 else if i%2=0 then 0 else 6):=hx
   rw[List.mem_map]at e;obtain⟨a,_,rfl⟩:=e;split
   ·omega
   ·split<;>omega
  ·have e:x∈([0,6]:List Nat):=hx
   simp at e;omega
  ·have e:x∈([0,0,6]:List Nat):=hx
   simp at e;omega
  ·have e:x∈([0,6]:List Nat):=hx
   simp at e;omega
  ·have e:x∈([]:List Nat):=hx
   simp at e
  ·have e:x∈([]:List Nat):=hx
   simp at e
  ·have e:x∈List.replicate m 0:=hx
   rw[List.mem_replicate]at e;omega
  ·have e:x∈([0,6]:List Nat):=hx
   simp at e;omega
  ·have e:x∈ [6]++List.replicate (m-1) 8:=hx
   simp only[List.mem_append,List.mem_replicate,List.mem_cons,List.not_mem_nil,or_false]at e;omega
  ·have e:x∈([5,6]:List Nat):=hx
   simp at e;omega
  ·have e:x∈([6,6]:List Nat):=hx
   simp at e;omega
  ·have e:x∈List.replicate m 7:=hx
   rw[List.mem_replicate]at e;omega
 ·have e:(qk op m).1= []:=by
   unfold qk
   iterate 17 rw[if_neg (by omega)]
  rw[e]at hx;cases hx
theorem Kh(op:Int)(m b:Nat)(a:Bool)(j:Nat):(zp op m b a j).1≤8:=by
 have h1:(qk op m).1.getD j 0≤8:=by
  rw[List.getD_eq_getElem?_getD]
  cases e:(qk op m).1[j]? with
  |none=>exact Nat.zero_le _
  |some x=>exact qbI op m x (List.mem_of_getElem? e)
 unfold zp;simp only;split
 ·omega
 ·split
  ·omega
  ·split
   ·omega
   ·exact h1
end Go.Proofs.YtggngahmafbihaaGreatDoor
