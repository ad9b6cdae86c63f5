/- Contracts, and the plain mathematics beneath. -/
import Derived.Deep.AppendLies
import Derived.Test.YtggngahmafbihaaGreatDoorPerAI
set_option linter.unusedVariables false
set_option linter.unusedSimpArgs false
set_option maxRecDepth 100000
set_option maxHeartbeats 4000000
namespace Go.Proofs.YtggngahmafbihaaGreatDoor
open Go.RowKit Go.Lib
def xG(i:Nat):Nat:=if i%2=0 then 0 else 6
theorem QX(i:Nat):qY ((List.range (i+1)).map xG)=qY ((List.range i).map xG)++ [.int .i64 (xG i:Int)]:=by
 rw[List.range_succ,List.map_append,jC];rfl
theorem ZJ(i:Nat):((List.range i).map xG).length=i:=by simp
theorem Xd(m:Nat)(h:m%2=0):(qk 41 m).1=(List.range m).map xG:=by
 show(List.range m).map (fun i=>if m%2=1∧i=m-1 then 6 else if i%2=0 then 0 else 6)=_
 apply List.map_congr_left
 intro i _;rw[if_neg (by omega)];rfl
theorem XX(m:Nat)(h:m%2=1):qY (qk 41 m).1=(qY ((List.range m).map xG)).set (m-1) (.int .i64 6):=by
 obtain⟨j,rfl⟩: ∃j,m=j+1:=⟨m-1,by omega⟩
 have e:(qk 41 (j+1)).1=(List.range (j+1)).map (fun i=>if(j+1)%2=1∧i=j+1-1 then 6 else if i%2=0 then 0 else 6):=rfl;rw[e,QX,List.range_succ,List.map_append,jC,show j+1-1=j from rfl,List.set_append_right _ _ (by rw[xf,ZJ];exact Nat.le_refl _),xf,ZJ,Nat.sub_self]
 congr 1
 ·congr 1
  apply List.map_congr_left
  intro i hi;rw[List.mem_range]at hi;rw[if_neg (by omega)];rfl
 ·show qY [if(j+1)%2=1∧j=j then 6 else _]=_
  rw[if_pos ⟨h,rfl⟩];rfl
theorem qc3(ln:Int)(s:ByteArray)(k n:Int)(t:ByteArray)(V:Value)(sa:Option Addr)(m sc:Nat)(w:World)(hm:m≤4096):
 Calls Tryz.prog 150 #[.agg #[.int .i64 41,.int .i64 ln,.string s,.int .i64 k,.int .i64 n,.string t,V,.slice sa m sc]] w (qp w 41 m):=by
 obtain⟨wa,x⟩: ∃wa,wa=w.alloc (.cells #[.int .i64 41,.int .i64 ln,.string s,.int .i64 k,.int .i64 n,.string t,V,.slice sa m sc] 31):=⟨_,rfl⟩
 have hb:Below w.heap.size w wa:=by rw[x];exact(Below.refl _ _).alloc (Nat.le_refl _) _
 have T:NdB wa w.heap.size (.int .i64 41) (.int .i64 ln) (.string s) (.int .i64 k) (.int .i64 n) (.string t) V (.slice sa m sc):=by rw[x];exact NdB.new _ _ _ _ _ _ _ _ _
 have v0:=T.c0;have v7:=T.c7;rw[x]at v0 v7;have G:=hid hb;have S:=hid x;clear hb T x;obtain⟨X,K,N,O,P⟩:=jZ xX;go_enter Tryz.func150,Tryz.ntmps150
 go_wp2_with fail
 rw[←S.out];go_loopg [7,114] m (fun kk ov v wr=> ∃(H:Value)(i:Nat),H=ov∧v= .int .i64 i∧i+kk=m∧wr.ownsRow wa.heap.size 3 1 H i (qY ((List.range i).map xG))∧Below w.heap.size w wr∧wa.heap.size≤wr.heap.size)
 case atStart=>exact⟨.slice none 0 0,0,rfl,rfl,by omega,World.ownsRow_nil _ _ _ _,G.out,Nat.le_refl _⟩
 case round=>
  obtain⟨H,i,rfl,rfl,ab,b,l,hrz⟩:=hrel;by_cases hi:i<m
  ·obtain⟨g,rfl⟩: ∃g,gk=g+1:=⟨gk-1,by omega⟩
   have q:=hid b;have e:=hid l;clear b l;obtain⟨wx,A⟩: ∃wx,wx=wr.alloc (.cells #[.int .i64 0,.int .i64 6] 3):=⟨_,rfl⟩
   have B:Below wr.heap.size wr wx:=by rw[A];exact(Below.refl _ _).alloc (Nat.le_refl _) _
   have E:=heap_alloc_new wr (.cells #[.int .i64 0,.int .i64 6] 3);have x0:=cell_of_row _ wr.heap.size 0 _ _ _ E;have x1:=cell_of_row _ wr.heap.size 1 _ _ _ E;have hxz:wx.heap.size=wr.heap.size+1:=by rw[A];simp
   have Q:=hid (zL q.out B);have y:=hid (e.out.trans (qc B e.out.size));have z:=hid A;clear B E A;rcases Nat.mod_two_eq_zero_or_one i with hp|hp
   ·have U:Int.tmod (i:Int) 2=0:=by rw[Int.tmod_eq_emod_of_nonneg (by omega)];omega
    have C:xG i=0:=by unfold xG;rw[if_pos hp]
    go_wp2_with (at_builtin;refine wpList_append_own _ rfl (.tmp 117) (.tmp 123) 24 rfl wa.heap.size 3 X (.int .i64 0) 1 8 Tryz.underlying24 K N O P rfl (by decide) H i (qY ((List.range i).map xG)) rfl (zL (by rw[←z.out];exact Q.out) ((Below.refl _ _).alloc (Nat.le_refl _) _)) ⟨wr.heap.size+1,0,none⟩ 1 1 [.int .i64 0] rfl rfl ?c1 ?c2 ?c3 ?c4 ?c5 ?c6
                 case c1=>have h:=cell_one_new (wr.alloc (.cells #[.int .i64 0,.int .i64 6] 3)) (.int .i64 0) 3;rw[show(wr.alloc (.cells #[.int .i64 0,.int .i64 6] 3)).heap.size=wr.heap.size+1 by simp]at h;exact h
                 case c2=>intro u L;simp at L;subst L;rfl
                 case c3=>unfold maxLen;omega
                 case c4=>omega
                 case c5=>simp;omega
                 rw[←z.out];intro v' F d a _;have f:=y.out.alloc y.out.size (.cells #[.int .i64 0] 3);have o:=hid (zq f f.size a (fun k hk=>Nat.le_trans G.out.size (xm Q.out k hk)));have r:=hid (show wa.heap.size≤F.heap.size by have:=a.size;simp at this;omega);have p:=hid d
                 clear d a f)
    go_roundg g
    case measure=>omega
    case rel=>exact⟨v',i+1,rfl,by go_num,by omega,by rw[QX,C];exact p.out,o.out,r.out⟩
   ·have U:Int.tmod (i:Int) 2=1:=by rw[Int.tmod_eq_emod_of_nonneg (by omega)];omega
    have C:xG i=6:=by unfold xG;rw[if_neg (by omega)]
    go_wp2_with (at_builtin;refine wpList_append_own _ rfl (.tmp 117) (.tmp 123) 24 rfl wa.heap.size 3 X (.int .i64 0) 1 8 Tryz.underlying24 K N O P rfl (by decide) H i (qY ((List.range i).map xG)) rfl (zL (by rw[←z.out];exact Q.out) ((Below.refl _ _).alloc (Nat.le_refl _) _)) ⟨wr.heap.size+1,0,none⟩ 1 1 [.int .i64 6] rfl rfl ?d1 ?d2 ?d3 ?d4 ?d5 ?d6
                 case d1=>have h:=cell_one_new (wr.alloc (.cells #[.int .i64 0,.int .i64 6] 3)) (.int .i64 6) 3;rw[show(wr.alloc (.cells #[.int .i64 0,.int .i64 6] 3)).heap.size=wr.heap.size+1 by simp]at h;exact h
                 case d2=>intro u L;simp at L;subst L;rfl
                 case d3=>unfold maxLen;omega
                 case d4=>omega
                 case d5=>simp;omega
                 rw[←z.out];intro v' F d a _;have f:=y.out.alloc y.out.size (.cells #[.int .i64 6] 3);have o:=hid (zq f f.size a (fun k hk=>Nat.le_trans G.out.size (xm Q.out k hk)));have r:=hid (show wa.heap.size≤F.heap.size by have:=a.size;simp at this;omega);have p:=hid d
                 clear d a f)
    go_roundg g
    case measure=>omega
    case rel=>exact⟨v',i+1,rfl,by go_num,by omega,by rw[QX,C];exact p.out,o.out,r.out⟩
  ·obtain rfl:i=m:=by omega
   have I:=hid (show decide ((2:Int)≤(i:Int))=(qk 41 i).2 by rw[show(qk 41 i).2=decide (2≤i)from rfl, ←xt];rfl);rcases Nat.mod_two_eq_zero_or_one i with hp|hp
   ·have U:Int.tmod (i:Int) 2=0:=by rw[Int.tmod_eq_emod_of_nonneg (by omega)];omega
    have q:=hid b;have e:=hid l;have R:=hid (Xd i hp);clear b l hp;go_wp2_with fail
    go_ret2
    refine⟨H,qo (c:= .nilIface) I.out,?_,e.out⟩;rw[R.out,ZJ];exact qs q.out G.out.size
   ·have U:Int.tmod (i:Int) 2=1:=by rw[Int.tmod_eq_emod_of_nonneg (by omega)];omega
    have q0:(0:Int)<(i:Int):=by omega
    obtain⟨j,hj⟩: ∃j:Nat,i=j+1:=⟨i-1,by omega⟩
    have e1:IntKind.i64.wrap ((i:Int)-1)=(j:Int):=by rw[show(i:Int)-1=(j:Int)by omega];exact IntWalk.i64_in _ (by omega)
    have Z:j<i:=by omega
    obtain⟨g,cap,hv,aa,hlt⟩:=b.form (by omega);subst hv;have f0:=b.frozenAt j
    obtain⟨u0,M⟩: ∃u0:Nat,(qY ((List.range i).map xG))[j]?=some (.int .i64 (u0:Int)):=by
     refine⟨xG j,?_⟩;simp[qY,Z]
    have c0:wr.cell? ⟨g,j,none⟩=some (.int .i64 (u0:Int)):=by rw[b.cellAt j (by omega)];exact M
    have D:=b.stored j (.int .i64 6);have J:=hid (XX i hp);rw[show i-1=j by omega]at J;rw[←J.out]at D;have W:=hid D;have e:=hid l;have Y:=hid (show(qk 41 i).1.length=i by show((List.range i).map _).length=i;rw[List.length_map,List.length_range]);clear b l D hp M hj;go_wp2_with fail
    go_ret2
    refine⟨_,qo (c:= .nilIface) I.out,?_,zq e.out e.out.size W.out.2 (fun k hk=>by injection hk with hk;subst hk;have:=G.out.size;omega)⟩;rw[Y.out];exact qs W.out.1 G.out.size
end Go.Proofs.YtggngahmafbihaaGreatDoor
