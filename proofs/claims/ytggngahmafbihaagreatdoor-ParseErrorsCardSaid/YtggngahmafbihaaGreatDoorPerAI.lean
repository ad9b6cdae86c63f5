/- Contracts, and the plain mathematics beneath. -/
import Derived.Laws.AppendOwnNone
import Derived.Maps.AppendAt
import Derived.Test.YtggngahmafbihaaGreatDoorPerAF
import Derived.Test.YtggngahmafbihaaGreatDoorPerAE
import Derived.Test.YtggngahmafbihaaGreatDoorPerAA
set_option linter.unusedVariables false
set_option linter.unusedSimpArgs false
set_option maxRecDepth 100000
set_option maxHeartbeats 2000000
namespace Go.Proofs.YtggngahmafbihaaGreatDoor
open Go.RowKit Go.Lib
def jg:VL→VL→Bool
 | .nil,.nil=>true
 | .cons k n s a r,.cons k' n' s' a' r'=>(jg a a' && decide (k=k') && decide (n=n') && decide (s=s')) && jg r r'
 |_,_=>false
def QK(k n:Int)(s:ByteArray)(a:VL)(k' n':Int)(s':ByteArray)(a':VL):Bool:=jg a a' && decide (k=k') && decide (n=n') && decide (s=s')
theorem Qc: ∀a b:VL,jg a b=true↔a=b
 | .nil,.nil=>by simp[jg]
 | .nil,.cons ..=>by simp[jg]
 | .cons ..,.nil=>by simp[jg]
 | .cons k n s a r,.cons k' n' s' a' r'=>by
   rw[jg,Bool.and_eq_true,Bool.and_eq_true,Bool.and_eq_true,Bool.and_eq_true,Qc a a',Qc r r',decide_eq_true_eq,decide_eq_true_eq,decide_eq_true_eq]
   constructor
   ·rintro⟨⟨⟨⟨rfl,rfl⟩,rfl⟩,rfl⟩,rfl⟩;rfl
   ·intro h;injection h with h1 h2 h3 h4 h5;exact⟨⟨⟨⟨h4,h1⟩,h2⟩,h3⟩,h5⟩
theorem qbL{k n:Int}{s:ByteArray}{a:VL}{k' n':Int}{s':ByteArray}{a':VL}:QK k n s a k' n' s' a'=true↔k=k'∧n=n'∧s=s'∧a=a':=by
 unfold QK;rw[Bool.and_eq_true,Bool.and_eq_true,Bool.and_eq_true,Qc,decide_eq_true_eq,decide_eq_true_eq,decide_eq_true_eq]
 constructor
 ·rintro⟨⟨⟨rfl,rfl⟩,rfl⟩,rfl⟩;exact⟨rfl,rfl,rfl,rfl⟩
 ·rintro⟨rfl,rfl,rfl,rfl⟩;exact⟨⟨⟨rfl,rfl⟩,rfl⟩,rfl⟩
theorem qbM: ∀a b:VL,a.len≠b.len→jg a b=false
 |a,b,h=>by
  cases c:jg a b with
  |false=>rfl
  |true=>rw[(Qc a b).1 c]at h;exact absurd rfl h
theorem qaI{a b:VL}{i:Nat}{k n:Int}{s:ByteArray}{x:VL}{k' n':Int}{s':ByteArray}{c:VL}(ha:a.drop i= .cons k n s x (a.drop (i+1)))(hb:b.drop i= .cons k' n' s' c (b.drop (i+1))):
 jg (a.drop i) (b.drop i)=(QK k n s x k' n' s' c && jg (a.drop (i+1)) (b.drop (i+1))):=by rw[ha,hb];rfl
def qY(l:List Nat):List Value:=l.map fun(r:Nat)=>Value.int .i64 (r:Int)
theorem xf(l:List Nat):(qY l).length=l.length:=List.length_map ..
theorem jC(a b:List Nat):qY (a++b)=qY a++qY b:=List.map_append
theorem xX:(Tryz.prog.info? 3).map (fun i=>(i.zero,i.size,i.bytes))=some (some (.int .i64 0),1,8):=by kernel_rfl
theorem zL{W W':World}{a e b n:Nat}{v:Value}{xs:List Value}(h:W.ownsRow a e b v n xs)(hb:Below W.heap.size W W'):W'.ownsRow a e b v n xs:=by
 refine⟨h.1,?_⟩;rcases h.2 with h0|⟨g,cap,d,hv,f,i,r⟩
 ·exact .inl h0
 ·have c:g<W.heap.size:=by
   rcases Nat.lt_or_ge g W.heap.size with c|hge
   ·exact c
   ·rw[Array.getElem?_eq_none hge]at i;cases i
  exact .inr ⟨g,cap,d,hv,f,(hb.block g c).trans i,r⟩
theorem xm{W:World}{a e b n:Nat}{v:Value}{xs:List Value}(h:W.ownsRow a e b v n xs)(k:Nat)(hk:v.ownBlock=some k):a≤k:=(h.lt k hk).1
theorem zq{B:Nat}{w a w2:World}{row:Option Nat}(h:Below B w a)(hz:B≤a.heap.size)(hg:a.grownBy w2 row)(hr: ∀k,row=some k→B≤k):Below B w w2:=
 ⟨hg.os.trans h.os,hg.tape.trans h.tape,hg.output.trans h.output,Nat.le_trans h.size hg.size,
  fun k hk=>(hg.block k (by omega) (fun e=>by have:=hr k e.symm;omega)).trans (h.block k hk)⟩
theorem jZ{P:Program}{t:TypeId}{a:Option Value}{b c:Nat}(h:(P.info? t).map (fun i=>(i.zero,i.size,i.bytes))=some (a,b,c)): ∃i,P.info? t=some i∧i.zero=a∧i.size=b∧i.bytes=c:=by
 cases d:P.info? t with
 |none=>rw[d]at h;cases h
 |some i=>rw[d]at h;injection h with h;injection h with h1 h;injection h with h2 h3;exact⟨i,rfl,h1,h2,h3⟩
theorem qV(r k:Nat)(w:World)(hr:r≤10)(hk:k≤4200):
 Calls Tryz.prog 178 #[.int .i64 (r:Int),.int .i64 (k:Int)] w fun e w'=> ∃v,e= .returned v∧w'.ownsRow w.heap.size 3 1 v k (qY (List.replicate k r))∧Below w.heap.size w w':=by
 obtain⟨z,o,p,q,s⟩:=jZ xX;go_enter Tryz.func178,Tryz.ntmps178
 go_wp2_with fail
 go_loopg [5,7] k (fun A B v wr=> ∃(n:Value)(i:Nat),n=B∧v= .int .i64 i∧i+A=k∧wr.ownsRow w.heap.size 3 1 n i (qY (List.replicate i r))∧Below w.heap.size w wr)
 case atStart=>exact⟨.slice none 0 0,0,rfl,rfl,by omega,World.ownsRow_nil _ _ _ _,Below.refl _ _⟩
 case round=>
  obtain⟨n,i,rfl,rfl,x,b,c⟩:=hrel;have y:=c.size;by_cases hi:i<k
  ·obtain⟨g,rfl⟩: ∃g,gk=g+1:=⟨gk-1,by omega⟩
   have a:=hid b;have j:=hid c;clear b c
   go_wp2_with (at_builtin;refine wpList_append_own _ rfl (.tmp 9) (.tmp 11) 24 rfl w.heap.size 3 z (.int .i64 0) 1 8 Tryz.underlying24 o p q s rfl (by decide) n i (qY (List.replicate i r)) rfl (zL a.out ((Below.refl _ _).alloc (Nat.le_refl _) _)) ⟨wr.heap.size,0,none⟩ 1 1 [.int .i64 (r:Int)] rfl rfl ?c1 ?c2 ?c3 ?c4 ?c5 ?c6
                case c1=>exact cell_one_new _ _ _
                case c2=>intro u t;simp at t;subst t;rfl
                case c3=>unfold maxLen;omega
                case c4=>omega
                case c5=>simp;omega
                intro v' C f d _;have l:=hid (zq (j.out.alloc j.out.size _) (by simp;omega) d (fun k hk=>xm a.out k hk));have m:=hid f
                clear f d)
   go_roundg g
   case measure=>omega
   case rel=>exact⟨v',i+1,rfl,by go_num,by omega,by
    have h:=m.out;have e:qY (List.replicate (i+1) r)=qY (List.replicate i r)++ [.int .i64 (r:Int)]:=by rw[List.replicate_succ',jC];rfl
    rw[e];exact h,l.out⟩
  ·obtain rfl:i=k:=by omega
   have a:=hid b;have j:=hid c;clear b c;go_wp2_with fail
   go_ret
   exact⟨n,rfl,a.out,j.out⟩
def qp(w:World)(op:Int)(n:Nat)(e:Ending)(w':World):Prop:=
 ∃v,e= .returned (.tuple #[v,.bool (qk op n).2])∧w'.ownsRow w.heap.size 3 1 v (qk op n).1.length (qY (qk op n).1)∧Below w.heap.size w w'
theorem qo{a c:Value}{b b':Bool}(h:b=b'):Ending.returned (.tuple #[a,.bool b])= .returned (.tuple #[a,.bool b']):=by rw[h]
theorem qS(n m:Nat):((n:Int)==(m:Int))=(n==m):=by
 rw[Bool.eq_iff_iff,beq_iff_eq,beq_iff_eq];omega
theorem xt(n m:Nat):decide ((m:Int)≤(n:Int))=decide (m≤n):=by
 rw[Bool.eq_iff_iff];simp
theorem jf(w:World){cs:Array Value}{n:Nat}{a:Nat}(hb:a≤w.heap.size)(hm:n≤maxLen)(hs:cs.size=n*1):(w.alloc (.cells cs 3)).ownsRow a 3 1 (.slice (some ⟨w.heap.size,0,none⟩) n n) n cs.toList:=World.ownsRow_lit w cs n hb hm hs
theorem qs{w:World}{b a e c n:Nat}{v:Value}{xs:List Value}(h:w.ownsRow b e c v n xs)(hb:a≤b):w.ownsRow a e c v n xs:=by
 refine⟨h.1,?_⟩;rcases h.2 with h0|⟨g,cap,d,hv,f,r⟩
 ·exact .inl h0
 ·exact .inr ⟨g,cap,d,hv,Nat.le_trans hb f,r⟩
theorem qeU(ln:Int)(s:ByteArray)(k n:Int)(t:ByteArray)(e:Value)(sa:Option Addr)(m sc:Nat)(w:World)(hm:m≤4096):
 Calls Tryz.prog 150 #[.agg #[.int .i64 1,.int .i64 ln,.string s,.int .i64 k,.int .i64 n,.string t,e,.slice sa m sc]] w (qp w 1 m):=by
 obtain⟨wa,a⟩: ∃wa,wa=w.alloc (.cells #[.int .i64 1,.int .i64 ln,.string s,.int .i64 k,.int .i64 n,.string t,e,.slice sa m sc] 31):=⟨_,rfl⟩
 have hb:Below w.heap.size w wa:=by rw[a];exact(Below.refl _ _).alloc (Nat.le_refl _) _
 have d:NdB wa w.heap.size (.int .i64 1) (.int .i64 ln) (.string s) (.int .i64 k) (.int .i64 n) (.string t) e (.slice sa m sc):=by rw[a];exact NdB.new _ _ _ _ _ _ _ _ _
 have v0:=d.c0;have g:=d.c7;rw[a]at v0 g;have f:=hid hb;have b:=hid a;clear hb d a;go_enter Tryz.func150,Tryz.ntmps150
 go_wp2_with fail
 rw[←b.out];go_ret2
 exact⟨_,qo (c:= .nilIface) (by rw[show(0:Int)=((0:Nat):Int)from rfl,qS];rfl),World.ownsRow_nil _ _ _ _,f.out⟩
theorem qeV(ln:Int)(s:ByteArray)(k n:Int)(t:ByteArray)(e:Value)(sa:Option Addr)(m sc:Nat)(w:World)(hm:m≤4096):
 Calls Tryz.prog 150 #[.agg #[.int .i64 2,.int .i64 ln,.string s,.int .i64 k,.int .i64 n,.string t,e,.slice sa m sc]] w (qp w 2 m):=by
 obtain⟨wa,a⟩: ∃wa,wa=w.alloc (.cells #[.int .i64 2,.int .i64 ln,.string s,.int .i64 k,.int .i64 n,.string t,e,.slice sa m sc] 31):=⟨_,rfl⟩
 have hb:Below w.heap.size w wa:=by rw[a];exact(Below.refl _ _).alloc (Nat.le_refl _) _
 have d:NdB wa w.heap.size (.int .i64 2) (.int .i64 ln) (.string s) (.int .i64 k) (.int .i64 n) (.string t) e (.slice sa m sc):=by rw[a];exact NdB.new _ _ _ _ _ _ _ _ _
 have v0:=d.c0;have g:=d.c7;rw[a]at v0 g;have f:=hid hb;have b:=hid a;clear hb d a;go_enter Tryz.func150,Tryz.ntmps150
 go_wp2_with fail
 rw[←b.out];go_ret2
 exact⟨_,qo (c:= .nilIface) (by rw[show(0:Int)=((0:Nat):Int)from rfl,qS];rfl),World.ownsRow_nil _ _ _ _,f.out⟩
theorem qc7(ln:Int)(s:ByteArray)(k n:Int)(t:ByteArray)(e:Value)(sa:Option Addr)(m sc:Nat)(w:World)(hm:m≤4096):
 Calls Tryz.prog 150 #[.agg #[.int .i64 45,.int .i64 ln,.string s,.int .i64 k,.int .i64 n,.string t,e,.slice sa m sc]] w (qp w 45 m):=by
 obtain⟨wa,a⟩: ∃wa,wa=w.alloc (.cells #[.int .i64 45,.int .i64 ln,.string s,.int .i64 k,.int .i64 n,.string t,e,.slice sa m sc] 31):=⟨_,rfl⟩
 have hb:Below w.heap.size w wa:=by rw[a];exact(Below.refl _ _).alloc (Nat.le_refl _) _
 have d:NdB wa w.heap.size (.int .i64 45) (.int .i64 ln) (.string s) (.int .i64 k) (.int .i64 n) (.string t) e (.slice sa m sc):=by rw[a];exact NdB.new _ _ _ _ _ _ _ _ _
 have v0:=d.c0;have g:=d.c7;rw[a]at v0 g;have f:=hid hb;have b:=hid a;clear hb d a;go_enter Tryz.func150,Tryz.ntmps150
 go_wp2_with fail
 rw[←b.out];go_ret2
 exact⟨_,qo (c:= .nilIface) (by rw[show(0:Int)=((0:Nat):Int)from rfl,qS];rfl),World.ownsRow_nil _ _ _ _,f.out⟩
theorem qc8(ln:Int)(s:ByteArray)(k n:Int)(t:ByteArray)(e:Value)(sa:Option Addr)(m sc:Nat)(w:World)(hm:m≤4096):
 Calls Tryz.prog 150 #[.agg #[.int .i64 46,.int .i64 ln,.string s,.int .i64 k,.int .i64 n,.string t,e,.slice sa m sc]] w (qp w 46 m):=by
 obtain⟨wa,a⟩: ∃wa,wa=w.alloc (.cells #[.int .i64 46,.int .i64 ln,.string s,.int .i64 k,.int .i64 n,.string t,e,.slice sa m sc] 31):=⟨_,rfl⟩
 have hb:Below w.heap.size w wa:=by rw[a];exact(Below.refl _ _).alloc (Nat.le_refl _) _
 have d:NdB wa w.heap.size (.int .i64 46) (.int .i64 ln) (.string s) (.int .i64 k) (.int .i64 n) (.string t) e (.slice sa m sc):=by rw[a];exact NdB.new _ _ _ _ _ _ _ _ _
 have v0:=d.c0;have g:=d.c7;rw[a]at v0 g;have f:=hid hb;have b:=hid a;clear hb d a;go_enter Tryz.func150,Tryz.ntmps150
 go_wp2_with fail
 rw[←b.out];go_ret2
 exact⟨_,qo (c:= .nilIface) (by rw[show(0:Int)=((0:Nat):Int)from rfl,qS];rfl),World.ownsRow_nil _ _ _ _,f.out⟩
theorem qeW(ln:Int)(s:ByteArray)(k n:Int)(t:ByteArray)(j:Value)(sa:Option Addr)(m sc:Nat)(w:World)(hm:m≤4096):
 Calls Tryz.prog 150 #[.agg #[.int .i64 3,.int .i64 ln,.string s,.int .i64 k,.int .i64 n,.string t,j,.slice sa m sc]] w (qp w 3 m):=by
 obtain⟨wa,a⟩: ∃wa,wa=w.alloc (.cells #[.int .i64 3,.int .i64 ln,.string s,.int .i64 k,.int .i64 n,.string t,j,.slice sa m sc] 31):=⟨_,rfl⟩
 have hb:Below w.heap.size w wa:=by rw[a];exact(Below.refl _ _).alloc (Nat.le_refl _) _
 have i:NdB wa w.heap.size (.int .i64 3) (.int .i64 ln) (.string s) (.int .i64 k) (.int .i64 n) (.string t) j (.slice sa m sc):=by rw[a];exact NdB.new _ _ _ _ _ _ _ _ _
 have v0:=i.c0;have p:=i.c7;rw[a]at v0 p;have d:=hid hb;have g:=hid a;clear hb i a;go_enter Tryz.func150,Tryz.ntmps150
 go_wp2_with fail
 rw[←g.out];refine(qV 0 1 wa (by decide) (by omega)).mono ?_;rintro e w2 ⟨v,rfl,l,b⟩;have o:=hid l;have f:=hid (d.out.trans (qc b d.out.size));clear l b;go_wp2_with fail
 go_ret2
 exact⟨v,qo (c:= .nilIface) (by rw[show(1:Int)=((1:Nat):Int)from rfl,qS];rfl),by
  have h:=qs o.out d.out.size;have e:(qk 3 m).1=List.replicate 1 0:=rfl
  rw[e,List.length_replicate];exact h,f.out⟩
theorem qeX(ln:Int)(s:ByteArray)(k n:Int)(t:ByteArray)(j:Value)(sa:Option Addr)(m sc:Nat)(w:World)(hm:m≤4096):
 Calls Tryz.prog 150 #[.agg #[.int .i64 4,.int .i64 ln,.string s,.int .i64 k,.int .i64 n,.string t,j,.slice sa m sc]] w (qp w 4 m):=by
 obtain⟨wa,a⟩: ∃wa,wa=w.alloc (.cells #[.int .i64 4,.int .i64 ln,.string s,.int .i64 k,.int .i64 n,.string t,j,.slice sa m sc] 31):=⟨_,rfl⟩
 have hb:Below w.heap.size w wa:=by rw[a];exact(Below.refl _ _).alloc (Nat.le_refl _) _
 have i:NdB wa w.heap.size (.int .i64 4) (.int .i64 ln) (.string s) (.int .i64 k) (.int .i64 n) (.string t) j (.slice sa m sc):=by rw[a];exact NdB.new _ _ _ _ _ _ _ _ _
 have v0:=i.c0;have p:=i.c7;rw[a]at v0 p;have d:=hid hb;have g:=hid a;clear hb i a;go_enter Tryz.func150,Tryz.ntmps150
 go_wp2_with fail
 rw[←g.out];refine(qV 0 1 wa (by decide) (by omega)).mono ?_;rintro e w2 ⟨v,rfl,l,b⟩;have o:=hid l;have f:=hid (d.out.trans (qc b d.out.size));clear l b;go_wp2_with fail
 go_ret2
 exact⟨v,qo (c:= .nilIface) (by rw[show(1:Int)=((1:Nat):Int)from rfl,qS];rfl),by
  have h:=qs o.out d.out.size;have e:(qk 4 m).1=List.replicate 1 0:=rfl
  rw[e,List.length_replicate];exact h,f.out⟩
theorem qcY(ln:Int)(s:ByteArray)(k n:Int)(t:ByteArray)(j:Value)(sa:Option Addr)(m sc:Nat)(w:World)(hm:m≤4096):
 Calls Tryz.prog 150 #[.agg #[.int .i64 26,.int .i64 ln,.string s,.int .i64 k,.int .i64 n,.string t,j,.slice sa m sc]] w (qp w 26 m):=by
 obtain⟨wa,a⟩: ∃wa,wa=w.alloc (.cells #[.int .i64 26,.int .i64 ln,.string s,.int .i64 k,.int .i64 n,.string t,j,.slice sa m sc] 31):=⟨_,rfl⟩
 have hb:Below w.heap.size w wa:=by rw[a];exact(Below.refl _ _).alloc (Nat.le_refl _) _
 have i:NdB wa w.heap.size (.int .i64 26) (.int .i64 ln) (.string s) (.int .i64 k) (.int .i64 n) (.string t) j (.slice sa m sc):=by rw[a];exact NdB.new _ _ _ _ _ _ _ _ _
 have v0:=i.c0;have p:=i.c7;rw[a]at v0 p;have d:=hid hb;have g:=hid a;clear hb i a;go_enter Tryz.func150,Tryz.ntmps150
 go_wp2_with fail
 rw[←g.out];refine(qV 0 1 wa (by decide) (by omega)).mono ?_;rintro e w2 ⟨v,rfl,l,b⟩;have o:=hid l;have f:=hid (d.out.trans (qc b d.out.size));clear l b;go_wp2_with fail
 go_ret2
 exact⟨v,qo (c:= .nilIface) (by rw[show(1:Int)=((1:Nat):Int)from rfl,qS];rfl),by
  have h:=qs o.out d.out.size;have e:(qk 26 m).1=List.replicate 1 0:=rfl
  rw[e,List.length_replicate];exact h,f.out⟩
theorem qc2(ln:Int)(s:ByteArray)(k n:Int)(t:ByteArray)(j:Value)(sa:Option Addr)(m sc:Nat)(w:World)(hm:m≤4096):
 Calls Tryz.prog 150 #[.agg #[.int .i64 40,.int .i64 ln,.string s,.int .i64 k,.int .i64 n,.string t,j,.slice sa m sc]] w (qp w 40 m):=by
 obtain⟨wa,a⟩: ∃wa,wa=w.alloc (.cells #[.int .i64 40,.int .i64 ln,.string s,.int .i64 k,.int .i64 n,.string t,j,.slice sa m sc] 31):=⟨_,rfl⟩
 have hb:Below w.heap.size w wa:=by rw[a];exact(Below.refl _ _).alloc (Nat.le_refl _) _
 have i:NdB wa w.heap.size (.int .i64 40) (.int .i64 ln) (.string s) (.int .i64 k) (.int .i64 n) (.string t) j (.slice sa m sc):=by rw[a];exact NdB.new _ _ _ _ _ _ _ _ _
 have v0:=i.c0;have p:=i.c7;rw[a]at v0 p;have d:=hid hb;have g:=hid a;clear hb i a;go_enter Tryz.func150,Tryz.ntmps150
 go_wp2_with fail
 rw[←g.out];refine(qV 0 1 wa (by decide) (by omega)).mono ?_;rintro e w2 ⟨v,rfl,l,b⟩;have o:=hid l;have f:=hid (d.out.trans (qc b d.out.size));clear l b;go_wp2_with fail
 go_ret2
 exact⟨v,qo (c:= .nilIface) (by rw[show(1:Int)=((1:Nat):Int)from rfl,qS];rfl),by
  have h:=qs o.out d.out.size;have e:(qk 40 m).1=List.replicate 1 0:=rfl
  rw[e,List.length_replicate];exact h,f.out⟩
theorem qcR(ln:Int)(s:ByteArray)(k n:Int)(t:ByteArray)(j:Value)(sa:Option Addr)(m sc:Nat)(w:World)(hm:m≤4096):
 Calls Tryz.prog 150 #[.agg #[.int .i64 19,.int .i64 ln,.string s,.int .i64 k,.int .i64 n,.string t,j,.slice sa m sc]] w (qp w 19 m):=by
 obtain⟨wa,a⟩: ∃wa,wa=w.alloc (.cells #[.int .i64 19,.int .i64 ln,.string s,.int .i64 k,.int .i64 n,.string t,j,.slice sa m sc] 31):=⟨_,rfl⟩
 have hb:Below w.heap.size w wa:=by rw[a];exact(Below.refl _ _).alloc (Nat.le_refl _) _
 have i:NdB wa w.heap.size (.int .i64 19) (.int .i64 ln) (.string s) (.int .i64 k) (.int .i64 n) (.string t) j (.slice sa m sc):=by rw[a];exact NdB.new _ _ _ _ _ _ _ _ _
 have v0:=i.c0;have p:=i.c7;rw[a]at v0 p;have d:=hid hb;have g:=hid a;clear hb i a;go_enter Tryz.func150,Tryz.ntmps150
 go_wp2_with fail
 rw[←g.out];refine(qV 0 3 wa (by decide) (by omega)).mono ?_;rintro e w2 ⟨v,rfl,l,b⟩;have o:=hid l;have f:=hid (d.out.trans (qc b d.out.size));clear l b;go_wp2_with fail
 go_ret2
 exact⟨v,qo (c:= .nilIface) (by rw[show(3:Int)=((3:Nat):Int)from rfl,qS];rfl),by
  have h:=qs o.out d.out.size;have e:(qk 19 m).1=List.replicate 3 0:=rfl
  rw[e,List.length_replicate];exact h,f.out⟩
theorem qcT(ln:Int)(s:ByteArray)(k n:Int)(t:ByteArray)(j:Value)(sa:Option Addr)(m sc:Nat)(w:World)(hm:m≤4096):
 Calls Tryz.prog 150 #[.agg #[.int .i64 21,.int .i64 ln,.string s,.int .i64 k,.int .i64 n,.string t,j,.slice sa m sc]] w (qp w 21 m):=by
 obtain⟨wa,a⟩: ∃wa,wa=w.alloc (.cells #[.int .i64 21,.int .i64 ln,.string s,.int .i64 k,.int .i64 n,.string t,j,.slice sa m sc] 31):=⟨_,rfl⟩
 have hb:Below w.heap.size w wa:=by rw[a];exact(Below.refl _ _).alloc (Nat.le_refl _) _
 have i:NdB wa w.heap.size (.int .i64 21) (.int .i64 ln) (.string s) (.int .i64 k) (.int .i64 n) (.string t) j (.slice sa m sc):=by rw[a];exact NdB.new _ _ _ _ _ _ _ _ _
 have v0:=i.c0;have p:=i.c7;rw[a]at v0 p;have d:=hid hb;have g:=hid a;clear hb i a;go_enter Tryz.func150,Tryz.ntmps150
 go_wp2_with fail
 rw[←g.out];refine(qV 0 3 wa (by decide) (by omega)).mono ?_;rintro e w2 ⟨v,rfl,l,b⟩;have o:=hid l;have f:=hid (d.out.trans (qc b d.out.size));clear l b;go_wp2_with fail
 go_ret2
 exact⟨v,qo (c:= .nilIface) (by rw[show(3:Int)=((3:Nat):Int)from rfl,qS];rfl),by
  have h:=qs o.out d.out.size;have e:(qk 21 m).1=List.replicate 3 0:=rfl
  rw[e,List.length_replicate];exact h,f.out⟩
theorem qcW(ln:Int)(s:ByteArray)(k n:Int)(t:ByteArray)(j:Value)(sa:Option Addr)(m sc:Nat)(w:World)(hm:m≤4096):
 Calls Tryz.prog 150 #[.agg #[.int .i64 24,.int .i64 ln,.string s,.int .i64 k,.int .i64 n,.string t,j,.slice sa m sc]] w (qp w 24 m):=by
 obtain⟨wa,a⟩: ∃wa,wa=w.alloc (.cells #[.int .i64 24,.int .i64 ln,.string s,.int .i64 k,.int .i64 n,.string t,j,.slice sa m sc] 31):=⟨_,rfl⟩
 have hb:Below w.heap.size w wa:=by rw[a];exact(Below.refl _ _).alloc (Nat.le_refl _) _
 have i:NdB wa w.heap.size (.int .i64 24) (.int .i64 ln) (.string s) (.int .i64 k) (.int .i64 n) (.string t) j (.slice sa m sc):=by rw[a];exact NdB.new _ _ _ _ _ _ _ _ _
 have v0:=i.c0;have p:=i.c7;rw[a]at v0 p;have d:=hid hb;have g:=hid a;clear hb i a;go_enter Tryz.func150,Tryz.ntmps150
 go_wp2_with fail
 rw[←g.out];refine(qV 1 m wa (by decide) (by omega)).mono ?_;rintro e w2 ⟨v,rfl,l,b⟩;have o:=hid l;have f:=hid (d.out.trans (qc b d.out.size));clear l b;go_wp2_with fail
 go_ret2
 exact⟨v,qo (c:= .nilIface) (by rfl),by
  have h:=qs o.out d.out.size;have e:(qk 24 m).1=List.replicate m 1:=rfl
  rw[e,List.length_replicate];exact h,f.out⟩
theorem qcX(ln:Int)(s:ByteArray)(k n:Int)(t:ByteArray)(j:Value)(sa:Option Addr)(m sc:Nat)(w:World)(hm:m≤4096):
 Calls Tryz.prog 150 #[.agg #[.int .i64 25,.int .i64 ln,.string s,.int .i64 k,.int .i64 n,.string t,j,.slice sa m sc]] w (qp w 25 m):=by
 obtain⟨wa,a⟩: ∃wa,wa=w.alloc (.cells #[.int .i64 25,.int .i64 ln,.string s,.int .i64 k,.int .i64 n,.string t,j,.slice sa m sc] 31):=⟨_,rfl⟩
 have hb:Below w.heap.size w wa:=by rw[a];exact(Below.refl _ _).alloc (Nat.le_refl _) _
 have i:NdB wa w.heap.size (.int .i64 25) (.int .i64 ln) (.string s) (.int .i64 k) (.int .i64 n) (.string t) j (.slice sa m sc):=by rw[a];exact NdB.new _ _ _ _ _ _ _ _ _
 have v0:=i.c0;have p:=i.c7;rw[a]at v0 p;have d:=hid hb;have g:=hid a;clear hb i a;go_enter Tryz.func150,Tryz.ntmps150
 go_wp2_with fail
 rw[←g.out];refine(qV 1 m wa (by decide) (by omega)).mono ?_;rintro e w2 ⟨v,rfl,l,b⟩;have o:=hid l;have f:=hid (d.out.trans (qc b d.out.size));clear l b;go_wp2_with fail
 go_ret2
 exact⟨v,qo (c:= .nilIface) (by rfl),by
  have h:=qs o.out d.out.size;have e:(qk 25 m).1=List.replicate m 1:=rfl
  rw[e,List.length_replicate];exact h,f.out⟩
theorem qc9(ln:Int)(s:ByteArray)(k n:Int)(t:ByteArray)(j:Value)(sa:Option Addr)(m sc:Nat)(w:World)(hm:m≤4096):
 Calls Tryz.prog 150 #[.agg #[.int .i64 47,.int .i64 ln,.string s,.int .i64 k,.int .i64 n,.string t,j,.slice sa m sc]] w (qp w 47 m):=by
 obtain⟨wa,a⟩: ∃wa,wa=w.alloc (.cells #[.int .i64 47,.int .i64 ln,.string s,.int .i64 k,.int .i64 n,.string t,j,.slice sa m sc] 31):=⟨_,rfl⟩
 have hb:Below w.heap.size w wa:=by rw[a];exact(Below.refl _ _).alloc (Nat.le_refl _) _
 have i:NdB wa w.heap.size (.int .i64 47) (.int .i64 ln) (.string s) (.int .i64 k) (.int .i64 n) (.string t) j (.slice sa m sc):=by rw[a];exact NdB.new _ _ _ _ _ _ _ _ _
 have v0:=i.c0;have p:=i.c7;rw[a]at v0 p;have d:=hid hb;have g:=hid a;clear hb i a;go_enter Tryz.func150,Tryz.ntmps150
 go_wp2_with fail
 rw[←g.out];refine(qV 0 m wa (by decide) (by omega)).mono ?_;rintro e w2 ⟨v,rfl,l,b⟩;have o:=hid l;have f:=hid (d.out.trans (qc b d.out.size));clear l b;go_wp2_with fail
 go_ret2
 exact⟨v,qo (c:= .nilIface) (by rw[show(1:Int)=((1:Nat):Int)from rfl,xt];rfl),by
  have h:=qs o.out d.out.size;have e:(qk 47 m).1=List.replicate m 0:=rfl
  rw[e,List.length_replicate];exact h,f.out⟩
theorem qde(ln:Int)(s:ByteArray)(k n:Int)(t:ByteArray)(j:Value)(sa:Option Addr)(m sc:Nat)(w:World)(hm:m≤4096):
 Calls Tryz.prog 150 #[.agg #[.int .i64 52,.int .i64 ln,.string s,.int .i64 k,.int .i64 n,.string t,j,.slice sa m sc]] w (qp w 52 m):=by
 obtain⟨wa,a⟩: ∃wa,wa=w.alloc (.cells #[.int .i64 52,.int .i64 ln,.string s,.int .i64 k,.int .i64 n,.string t,j,.slice sa m sc] 31):=⟨_,rfl⟩
 have hb:Below w.heap.size w wa:=by rw[a];exact(Below.refl _ _).alloc (Nat.le_refl _) _
 have i:NdB wa w.heap.size (.int .i64 52) (.int .i64 ln) (.string s) (.int .i64 k) (.int .i64 n) (.string t) j (.slice sa m sc):=by rw[a];exact NdB.new _ _ _ _ _ _ _ _ _
 have v0:=i.c0;have p:=i.c7;rw[a]at v0 p;have d:=hid hb;have g:=hid a;clear hb i a;go_enter Tryz.func150,Tryz.ntmps150
 go_wp2_with fail
 rw[←g.out];refine(qV 7 m wa (by decide) (by omega)).mono ?_;rintro e w2 ⟨v,rfl,l,b⟩;have o:=hid l;have f:=hid (d.out.trans (qc b d.out.size));clear l b;go_wp2_with fail
 go_ret2
 exact⟨v,qo (c:= .nilIface) (by rfl),by
  have h:=qs o.out d.out.size;have e:(qk 52 m).1=List.replicate m 7:=rfl
  rw[e,List.length_replicate];exact h,f.out⟩
theorem qeY(ln:Int)(s:ByteArray)(k n:Int)(t:ByteArray)(j:Value)(sa:Option Addr)(m sc:Nat)(w:World)(hm:m≤4096):
 Calls Tryz.prog 150 #[.agg #[.int .i64 5,.int .i64 ln,.string s,.int .i64 k,.int .i64 n,.string t,j,.slice sa m sc]] w (qp w 5 m):=by
 obtain⟨wa,a⟩: ∃wa,wa=w.alloc (.cells #[.int .i64 5,.int .i64 ln,.string s,.int .i64 k,.int .i64 n,.string t,j,.slice sa m sc] 31):=⟨_,rfl⟩
 have hb:Below w.heap.size w wa:=by rw[a];exact(Below.refl _ _).alloc (Nat.le_refl _) _
 have i:NdB wa w.heap.size (.int .i64 5) (.int .i64 ln) (.string s) (.int .i64 k) (.int .i64 n) (.string t) j (.slice sa m sc):=by rw[a];exact NdB.new _ _ _ _ _ _ _ _ _
 have v0:=i.c0;have p:=i.c7;rw[a]at v0 p;have d:=hid hb;have g:=hid a;clear hb i a;go_enter Tryz.func150,Tryz.ntmps150
 go_wp2_with fail
 rw[←g.out];refine(qV 0 2 wa (by decide) (by omega)).mono ?_;rintro e w2 ⟨v,rfl,l,b⟩;have o:=hid l;have f:=hid (d.out.trans (qc b d.out.size));clear l b;go_wp2_with fail
 go_ret2
 exact⟨v,qo (c:= .nilIface) (by rw[show(2:Int)=((2:Nat):Int)from rfl,qS];rfl),by
  have h:=qs o.out d.out.size;have e:(qk 5 m).1=List.replicate 2 0:=rfl
  rw[e,List.length_replicate];exact h,f.out⟩
theorem qeZ(ln:Int)(s:ByteArray)(k n:Int)(t:ByteArray)(j:Value)(sa:Option Addr)(m sc:Nat)(w:World)(hm:m≤4096):
 Calls Tryz.prog 150 #[.agg #[.int .i64 6,.int .i64 ln,.string s,.int .i64 k,.int .i64 n,.string t,j,.slice sa m sc]] w (qp w 6 m):=by
 obtain⟨wa,a⟩: ∃wa,wa=w.alloc (.cells #[.int .i64 6,.int .i64 ln,.string s,.int .i64 k,.int .i64 n,.string t,j,.slice sa m sc] 31):=⟨_,rfl⟩
 have hb:Below w.heap.size w wa:=by rw[a];exact(Below.refl _ _).alloc (Nat.le_refl _) _
 have i:NdB wa w.heap.size (.int .i64 6) (.int .i64 ln) (.string s) (.int .i64 k) (.int .i64 n) (.string t) j (.slice sa m sc):=by rw[a];exact NdB.new _ _ _ _ _ _ _ _ _
 have v0:=i.c0;have p:=i.c7;rw[a]at v0 p;have d:=hid hb;have g:=hid a;clear hb i a;go_enter Tryz.func150,Tryz.ntmps150
 go_wp2_with fail
 rw[←g.out];refine(qV 0 2 wa (by decide) (by omega)).mono ?_;rintro e w2 ⟨v,rfl,l,b⟩;have o:=hid l;have f:=hid (d.out.trans (qc b d.out.size));clear l b;go_wp2_with fail
 go_ret2
 exact⟨v,qo (c:= .nilIface) (by rw[show(2:Int)=((2:Nat):Int)from rfl,qS];rfl),by
  have h:=qs o.out d.out.size;have e:(qk 6 m).1=List.replicate 2 0:=rfl
  rw[e,List.length_replicate];exact h,f.out⟩
theorem qe0(ln:Int)(s:ByteArray)(k n:Int)(t:ByteArray)(j:Value)(sa:Option Addr)(m sc:Nat)(w:World)(hm:m≤4096):
 Calls Tryz.prog 150 #[.agg #[.int .i64 7,.int .i64 ln,.string s,.int .i64 k,.int .i64 n,.string t,j,.slice sa m sc]] w (qp w 7 m):=by
 obtain⟨wa,a⟩: ∃wa,wa=w.alloc (.cells #[.int .i64 7,.int .i64 ln,.string s,.int .i64 k,.int .i64 n,.string t,j,.slice sa m sc] 31):=⟨_,rfl⟩
 have hb:Below w.heap.size w wa:=by rw[a];exact(Below.refl _ _).alloc (Nat.le_refl _) _
 have i:NdB wa w.heap.size (.int .i64 7) (.int .i64 ln) (.string s) (.int .i64 k) (.int .i64 n) (.string t) j (.slice sa m sc):=by rw[a];exact NdB.new _ _ _ _ _ _ _ _ _
 have v0:=i.c0;have p:=i.c7;rw[a]at v0 p;have d:=hid hb;have g:=hid a;clear hb i a;go_enter Tryz.func150,Tryz.ntmps150
 go_wp2_with fail
 rw[←g.out];refine(qV 0 2 wa (by decide) (by omega)).mono ?_;rintro e w2 ⟨v,rfl,l,b⟩;have o:=hid l;have f:=hid (d.out.trans (qc b d.out.size));clear l b;go_wp2_with fail
 go_ret2
 exact⟨v,qo (c:= .nilIface) (by rw[show(2:Int)=((2:Nat):Int)from rfl,qS];rfl),by
  have h:=qs o.out d.out.size;have e:(qk 7 m).1=List.replicate 2 0:=rfl
  rw[e,List.length_replicate];exact h,f.out⟩
theorem qe1(ln:Int)(s:ByteArray)(k n:Int)(t:ByteArray)(j:Value)(sa:Option Addr)(m sc:Nat)(w:World)(hm:m≤4096):
 Calls Tryz.prog 150 #[.agg #[.int .i64 8,.int .i64 ln,.string s,.int .i64 k,.int .i64 n,.string t,j,.slice sa m sc]] w (qp w 8 m):=by
 obtain⟨wa,a⟩: ∃wa,wa=w.alloc (.cells #[.int .i64 8,.int .i64 ln,.string s,.int .i64 k,.int .i64 n,.string t,j,.slice sa m sc] 31):=⟨_,rfl⟩
 have hb:Below w.heap.size w wa:=by rw[a];exact(Below.refl _ _).alloc (Nat.le_refl _) _
 have i:NdB wa w.heap.size (.int .i64 8) (.int .i64 ln) (.string s) (.int .i64 k) (.int .i64 n) (.string t) j (.slice sa m sc):=by rw[a];exact NdB.new _ _ _ _ _ _ _ _ _
 have v0:=i.c0;have p:=i.c7;rw[a]at v0 p;have d:=hid hb;have g:=hid a;clear hb i a;go_enter Tryz.func150,Tryz.ntmps150
 go_wp2_with fail
 rw[←g.out];refine(qV 0 2 wa (by decide) (by omega)).mono ?_;rintro e w2 ⟨v,rfl,l,b⟩;have o:=hid l;have f:=hid (d.out.trans (qc b d.out.size));clear l b;go_wp2_with fail
 go_ret2
 exact⟨v,qo (c:= .nilIface) (by rw[show(2:Int)=((2:Nat):Int)from rfl,qS];rfl),by
  have h:=qs o.out d.out.size;have e:(qk 8 m).1=List.replicate 2 0:=rfl
  rw[e,List.length_replicate];exact h,f.out⟩
theorem qe2(ln:Int)(s:ByteArray)(k n:Int)(t:ByteArray)(j:Value)(sa:Option Addr)(m sc:Nat)(w:World)(hm:m≤4096):
 Calls Tryz.prog 150 #[.agg #[.int .i64 9,.int .i64 ln,.string s,.int .i64 k,.int .i64 n,.string t,j,.slice sa m sc]] w (qp w 9 m):=by
 obtain⟨wa,a⟩: ∃wa,wa=w.alloc (.cells #[.int .i64 9,.int .i64 ln,.string s,.int .i64 k,.int .i64 n,.string t,j,.slice sa m sc] 31):=⟨_,rfl⟩
 have hb:Below w.heap.size w wa:=by rw[a];exact(Below.refl _ _).alloc (Nat.le_refl _) _
 have i:NdB wa w.heap.size (.int .i64 9) (.int .i64 ln) (.string s) (.int .i64 k) (.int .i64 n) (.string t) j (.slice sa m sc):=by rw[a];exact NdB.new _ _ _ _ _ _ _ _ _
 have v0:=i.c0;have p:=i.c7;rw[a]at v0 p;have d:=hid hb;have g:=hid a;clear hb i a;go_enter Tryz.func150,Tryz.ntmps150
 go_wp2_with fail
 rw[←g.out];refine(qV 0 2 wa (by decide) (by omega)).mono ?_;rintro e w2 ⟨v,rfl,l,b⟩;have o:=hid l;have f:=hid (d.out.trans (qc b d.out.size));clear l b;go_wp2_with fail
 go_ret2
 exact⟨v,qo (c:= .nilIface) (by rw[show(2:Int)=((2:Nat):Int)from rfl,qS];rfl),by
  have h:=qs o.out d.out.size;have e:(qk 9 m).1=List.replicate 2 0:=rfl
  rw[e,List.length_replicate];exact h,f.out⟩
theorem qcI(ln:Int)(s:ByteArray)(k n:Int)(t:ByteArray)(j:Value)(sa:Option Addr)(m sc:Nat)(w:World)(hm:m≤4096):
 Calls Tryz.prog 150 #[.agg #[.int .i64 10,.int .i64 ln,.string s,.int .i64 k,.int .i64 n,.string t,j,.slice sa m sc]] w (qp w 10 m):=by
 obtain⟨wa,a⟩: ∃wa,wa=w.alloc (.cells #[.int .i64 10,.int .i64 ln,.string s,.int .i64 k,.int .i64 n,.string t,j,.slice sa m sc] 31):=⟨_,rfl⟩
 have hb:Below w.heap.size w wa:=by rw[a];exact(Below.refl _ _).alloc (Nat.le_refl _) _
 have i:NdB wa w.heap.size (.int .i64 10) (.int .i64 ln) (.string s) (.int .i64 k) (.int .i64 n) (.string t) j (.slice sa m sc):=by rw[a];exact NdB.new _ _ _ _ _ _ _ _ _
 have v0:=i.c0;have p:=i.c7;rw[a]at v0 p;have d:=hid hb;have g:=hid a;clear hb i a;go_enter Tryz.func150,Tryz.ntmps150
 go_wp2_with fail
 rw[←g.out];refine(qV 0 2 wa (by decide) (by omega)).mono ?_;rintro e w2 ⟨v,rfl,l,b⟩;have o:=hid l;have f:=hid (d.out.trans (qc b d.out.size));clear l b;go_wp2_with fail
 go_ret2
 exact⟨v,qo (c:= .nilIface) (by rw[show(2:Int)=((2:Nat):Int)from rfl,qS];rfl),by
  have h:=qs o.out d.out.size;have e:(qk 10 m).1=List.replicate 2 0:=rfl
  rw[e,List.length_replicate];exact h,f.out⟩
theorem qcJ(ln:Int)(s:ByteArray)(k n:Int)(t:ByteArray)(j:Value)(sa:Option Addr)(m sc:Nat)(w:World)(hm:m≤4096):
 Calls Tryz.prog 150 #[.agg #[.int .i64 11,.int .i64 ln,.string s,.int .i64 k,.int .i64 n,.string t,j,.slice sa m sc]] w (qp w 11 m):=by
 obtain⟨wa,a⟩: ∃wa,wa=w.alloc (.cells #[.int .i64 11,.int .i64 ln,.string s,.int .i64 k,.int .i64 n,.string t,j,.slice sa m sc] 31):=⟨_,rfl⟩
 have hb:Below w.heap.size w wa:=by rw[a];exact(Below.refl _ _).alloc (Nat.le_refl _) _
 have i:NdB wa w.heap.size (.int .i64 11) (.int .i64 ln) (.string s) (.int .i64 k) (.int .i64 n) (.string t) j (.slice sa m sc):=by rw[a];exact NdB.new _ _ _ _ _ _ _ _ _
 have v0:=i.c0;have p:=i.c7;rw[a]at v0 p;have d:=hid hb;have g:=hid a;clear hb i a;go_enter Tryz.func150,Tryz.ntmps150
 go_wp2_with fail
 rw[←g.out];refine(qV 0 2 wa (by decide) (by omega)).mono ?_;rintro e w2 ⟨v,rfl,l,b⟩;have o:=hid l;have f:=hid (d.out.trans (qc b d.out.size));clear l b;go_wp2_with fail
 go_ret2
 exact⟨v,qo (c:= .nilIface) (by rw[show(2:Int)=((2:Nat):Int)from rfl,qS];rfl),by
  have h:=qs o.out d.out.size;have e:(qk 11 m).1=List.replicate 2 0:=rfl
  rw[e,List.length_replicate];exact h,f.out⟩
theorem qcK(ln:Int)(s:ByteArray)(k n:Int)(t:ByteArray)(j:Value)(sa:Option Addr)(m sc:Nat)(w:World)(hm:m≤4096):
 Calls Tryz.prog 150 #[.agg #[.int .i64 12,.int .i64 ln,.string s,.int .i64 k,.int .i64 n,.string t,j,.slice sa m sc]] w (qp w 12 m):=by
 obtain⟨wa,a⟩: ∃wa,wa=w.alloc (.cells #[.int .i64 12,.int .i64 ln,.string s,.int .i64 k,.int .i64 n,.string t,j,.slice sa m sc] 31):=⟨_,rfl⟩
 have hb:Below w.heap.size w wa:=by rw[a];exact(Below.refl _ _).alloc (Nat.le_refl _) _
 have i:NdB wa w.heap.size (.int .i64 12) (.int .i64 ln) (.string s) (.int .i64 k) (.int .i64 n) (.string t) j (.slice sa m sc):=by rw[a];exact NdB.new _ _ _ _ _ _ _ _ _
 have v0:=i.c0;have p:=i.c7;rw[a]at v0 p;have d:=hid hb;have g:=hid a;clear hb i a;go_enter Tryz.func150,Tryz.ntmps150
 go_wp2_with fail
 rw[←g.out];refine(qV 0 2 wa (by decide) (by omega)).mono ?_;rintro e w2 ⟨v,rfl,l,b⟩;have o:=hid l;have f:=hid (d.out.trans (qc b d.out.size));clear l b;go_wp2_with fail
 go_ret2
 exact⟨v,qo (c:= .nilIface) (by rw[show(2:Int)=((2:Nat):Int)from rfl,qS];rfl),by
  have h:=qs o.out d.out.size;have e:(qk 12 m).1=List.replicate 2 0:=rfl
  rw[e,List.length_replicate];exact h,f.out⟩
theorem qcL(ln:Int)(s:ByteArray)(k n:Int)(t:ByteArray)(j:Value)(sa:Option Addr)(m sc:Nat)(w:World)(hm:m≤4096):
 Calls Tryz.prog 150 #[.agg #[.int .i64 13,.int .i64 ln,.string s,.int .i64 k,.int .i64 n,.string t,j,.slice sa m sc]] w (qp w 13 m):=by
 obtain⟨wa,a⟩: ∃wa,wa=w.alloc (.cells #[.int .i64 13,.int .i64 ln,.string s,.int .i64 k,.int .i64 n,.string t,j,.slice sa m sc] 31):=⟨_,rfl⟩
 have hb:Below w.heap.size w wa:=by rw[a];exact(Below.refl _ _).alloc (Nat.le_refl _) _
 have i:NdB wa w.heap.size (.int .i64 13) (.int .i64 ln) (.string s) (.int .i64 k) (.int .i64 n) (.string t) j (.slice sa m sc):=by rw[a];exact NdB.new _ _ _ _ _ _ _ _ _
 have v0:=i.c0;have p:=i.c7;rw[a]at v0 p;have d:=hid hb;have g:=hid a;clear hb i a;go_enter Tryz.func150,Tryz.ntmps150
 go_wp2_with fail
 rw[←g.out];refine(qV 0 2 wa (by decide) (by omega)).mono ?_;rintro e w2 ⟨v,rfl,l,b⟩;have o:=hid l;have f:=hid (d.out.trans (qc b d.out.size));clear l b;go_wp2_with fail
 go_ret2
 exact⟨v,qo (c:= .nilIface) (by rw[show(2:Int)=((2:Nat):Int)from rfl,qS];rfl),by
  have h:=qs o.out d.out.size;have e:(qk 13 m).1=List.replicate 2 0:=rfl
  rw[e,List.length_replicate];exact h,f.out⟩
theorem qcM(ln:Int)(s:ByteArray)(k n:Int)(t:ByteArray)(j:Value)(sa:Option Addr)(m sc:Nat)(w:World)(hm:m≤4096):
 Calls Tryz.prog 150 #[.agg #[.int .i64 14,.int .i64 ln,.string s,.int .i64 k,.int .i64 n,.string t,j,.slice sa m sc]] w (qp w 14 m):=by
 obtain⟨wa,a⟩: ∃wa,wa=w.alloc (.cells #[.int .i64 14,.int .i64 ln,.string s,.int .i64 k,.int .i64 n,.string t,j,.slice sa m sc] 31):=⟨_,rfl⟩
 have hb:Below w.heap.size w wa:=by rw[a];exact(Below.refl _ _).alloc (Nat.le_refl _) _
 have i:NdB wa w.heap.size (.int .i64 14) (.int .i64 ln) (.string s) (.int .i64 k) (.int .i64 n) (.string t) j (.slice sa m sc):=by rw[a];exact NdB.new _ _ _ _ _ _ _ _ _
 have v0:=i.c0;have p:=i.c7;rw[a]at v0 p;have d:=hid hb;have g:=hid a;clear hb i a;go_enter Tryz.func150,Tryz.ntmps150
 go_wp2_with fail
 rw[←g.out];refine(qV 0 2 wa (by decide) (by omega)).mono ?_;rintro e w2 ⟨v,rfl,l,b⟩;have o:=hid l;have f:=hid (d.out.trans (qc b d.out.size));clear l b;go_wp2_with fail
 go_ret2
 exact⟨v,qo (c:= .nilIface) (by rw[show(2:Int)=((2:Nat):Int)from rfl,qS];rfl),by
  have h:=qs o.out d.out.size;have e:(qk 14 m).1=List.replicate 2 0:=rfl
  rw[e,List.length_replicate];exact h,f.out⟩
theorem qcN(ln:Int)(s:ByteArray)(k n:Int)(t:ByteArray)(j:Value)(sa:Option Addr)(m sc:Nat)(w:World)(hm:m≤4096):
 Calls Tryz.prog 150 #[.agg #[.int .i64 15,.int .i64 ln,.string s,.int .i64 k,.int .i64 n,.string t,j,.slice sa m sc]] w (qp w 15 m):=by
 obtain⟨wa,a⟩: ∃wa,wa=w.alloc (.cells #[.int .i64 15,.int .i64 ln,.string s,.int .i64 k,.int .i64 n,.string t,j,.slice sa m sc] 31):=⟨_,rfl⟩
 have hb:Below w.heap.size w wa:=by rw[a];exact(Below.refl _ _).alloc (Nat.le_refl _) _
 have i:NdB wa w.heap.size (.int .i64 15) (.int .i64 ln) (.string s) (.int .i64 k) (.int .i64 n) (.string t) j (.slice sa m sc):=by rw[a];exact NdB.new _ _ _ _ _ _ _ _ _
 have v0:=i.c0;have p:=i.c7;rw[a]at v0 p;have d:=hid hb;have g:=hid a;clear hb i a;go_enter Tryz.func150,Tryz.ntmps150
 go_wp2_with fail
 rw[←g.out];refine(qV 0 2 wa (by decide) (by omega)).mono ?_;rintro e w2 ⟨v,rfl,l,b⟩;have o:=hid l;have f:=hid (d.out.trans (qc b d.out.size));clear l b;go_wp2_with fail
 go_ret2
 exact⟨v,qo (c:= .nilIface) (by rw[show(2:Int)=((2:Nat):Int)from rfl,qS];rfl),by
  have h:=qs o.out d.out.size;have e:(qk 15 m).1=List.replicate 2 0:=rfl
  rw[e,List.length_replicate];exact h,f.out⟩
theorem qcO(ln:Int)(s:ByteArray)(k n:Int)(t:ByteArray)(j:Value)(sa:Option Addr)(m sc:Nat)(w:World)(hm:m≤4096):
 Calls Tryz.prog 150 #[.agg #[.int .i64 16,.int .i64 ln,.string s,.int .i64 k,.int .i64 n,.string t,j,.slice sa m sc]] w (qp w 16 m):=by
 obtain⟨wa,a⟩: ∃wa,wa=w.alloc (.cells #[.int .i64 16,.int .i64 ln,.string s,.int .i64 k,.int .i64 n,.string t,j,.slice sa m sc] 31):=⟨_,rfl⟩
 have hb:Below w.heap.size w wa:=by rw[a];exact(Below.refl _ _).alloc (Nat.le_refl _) _
 have i:NdB wa w.heap.size (.int .i64 16) (.int .i64 ln) (.string s) (.int .i64 k) (.int .i64 n) (.string t) j (.slice sa m sc):=by rw[a];exact NdB.new _ _ _ _ _ _ _ _ _
 have v0:=i.c0;have p:=i.c7;rw[a]at v0 p;have d:=hid hb;have g:=hid a;clear hb i a;go_enter Tryz.func150,Tryz.ntmps150
 go_wp2_with fail
 rw[←g.out];refine(qV 0 2 wa (by decide) (by omega)).mono ?_;rintro e w2 ⟨v,rfl,l,b⟩;have o:=hid l;have f:=hid (d.out.trans (qc b d.out.size));clear l b;go_wp2_with fail
 go_ret2
 exact⟨v,qo (c:= .nilIface) (by rw[show(2:Int)=((2:Nat):Int)from rfl,qS];rfl),by
  have h:=qs o.out d.out.size;have e:(qk 16 m).1=List.replicate 2 0:=rfl
  rw[e,List.length_replicate];exact h,f.out⟩
theorem qcP(ln:Int)(s:ByteArray)(k n:Int)(t:ByteArray)(j:Value)(sa:Option Addr)(m sc:Nat)(w:World)(hm:m≤4096):
 Calls Tryz.prog 150 #[.agg #[.int .i64 17,.int .i64 ln,.string s,.int .i64 k,.int .i64 n,.string t,j,.slice sa m sc]] w (qp w 17 m):=by
 obtain⟨wa,a⟩: ∃wa,wa=w.alloc (.cells #[.int .i64 17,.int .i64 ln,.string s,.int .i64 k,.int .i64 n,.string t,j,.slice sa m sc] 31):=⟨_,rfl⟩
 have hb:Below w.heap.size w wa:=by rw[a];exact(Below.refl _ _).alloc (Nat.le_refl _) _
 have i:NdB wa w.heap.size (.int .i64 17) (.int .i64 ln) (.string s) (.int .i64 k) (.int .i64 n) (.string t) j (.slice sa m sc):=by rw[a];exact NdB.new _ _ _ _ _ _ _ _ _
 have v0:=i.c0;have p:=i.c7;rw[a]at v0 p;have d:=hid hb;have g:=hid a;clear hb i a;go_enter Tryz.func150,Tryz.ntmps150
 go_wp2_with fail
 rw[←g.out];refine(qV 0 2 wa (by decide) (by omega)).mono ?_;rintro e w2 ⟨v,rfl,l,b⟩;have o:=hid l;have f:=hid (d.out.trans (qc b d.out.size));clear l b;go_wp2_with fail
 go_ret2
 exact⟨v,qo (c:= .nilIface) (by rw[show(2:Int)=((2:Nat):Int)from rfl,qS];rfl),by
  have h:=qs o.out d.out.size;have e:(qk 17 m).1=List.replicate 2 0:=rfl
  rw[e,List.length_replicate];exact h,f.out⟩
theorem qcQ(ln:Int)(s:ByteArray)(k n:Int)(t:ByteArray)(j:Value)(sa:Option Addr)(m sc:Nat)(w:World)(hm:m≤4096):
 Calls Tryz.prog 150 #[.agg #[.int .i64 18,.int .i64 ln,.string s,.int .i64 k,.int .i64 n,.string t,j,.slice sa m sc]] w (qp w 18 m):=by
 obtain⟨wa,a⟩: ∃wa,wa=w.alloc (.cells #[.int .i64 18,.int .i64 ln,.string s,.int .i64 k,.int .i64 n,.string t,j,.slice sa m sc] 31):=⟨_,rfl⟩
 have hb:Below w.heap.size w wa:=by rw[a];exact(Below.refl _ _).alloc (Nat.le_refl _) _
 have i:NdB wa w.heap.size (.int .i64 18) (.int .i64 ln) (.string s) (.int .i64 k) (.int .i64 n) (.string t) j (.slice sa m sc):=by rw[a];exact NdB.new _ _ _ _ _ _ _ _ _
 have v0:=i.c0;have p:=i.c7;rw[a]at v0 p;have d:=hid hb;have g:=hid a;clear hb i a;go_enter Tryz.func150,Tryz.ntmps150
 go_wp2_with fail
 rw[←g.out];refine(qV 0 2 wa (by decide) (by omega)).mono ?_;rintro e w2 ⟨v,rfl,l,b⟩;have o:=hid l;have f:=hid (d.out.trans (qc b d.out.size));clear l b;go_wp2_with fail
 go_ret2
 exact⟨v,qo (c:= .nilIface) (by rw[show(2:Int)=((2:Nat):Int)from rfl,qS];rfl),by
  have h:=qs o.out d.out.size;have e:(qk 18 m).1=List.replicate 2 0:=rfl
  rw[e,List.length_replicate];exact h,f.out⟩
theorem qcS(ln:Int)(s:ByteArray)(k n:Int)(t:ByteArray)(j:Value)(sa:Option Addr)(m sc:Nat)(w:World)(hm:m≤4096):
 Calls Tryz.prog 150 #[.agg #[.int .i64 20,.int .i64 ln,.string s,.int .i64 k,.int .i64 n,.string t,j,.slice sa m sc]] w (qp w 20 m):=by
 obtain⟨wa,a⟩: ∃wa,wa=w.alloc (.cells #[.int .i64 20,.int .i64 ln,.string s,.int .i64 k,.int .i64 n,.string t,j,.slice sa m sc] 31):=⟨_,rfl⟩
 have hb:Below w.heap.size w wa:=by rw[a];exact(Below.refl _ _).alloc (Nat.le_refl _) _
 have i:NdB wa w.heap.size (.int .i64 20) (.int .i64 ln) (.string s) (.int .i64 k) (.int .i64 n) (.string t) j (.slice sa m sc):=by rw[a];exact NdB.new _ _ _ _ _ _ _ _ _
 have v0:=i.c0;have p:=i.c7;rw[a]at v0 p;have d:=hid hb;have g:=hid a;clear hb i a;go_enter Tryz.func150,Tryz.ntmps150
 go_wp2_with fail
 rw[←g.out];refine(qV 0 2 wa (by decide) (by omega)).mono ?_;rintro e w2 ⟨v,rfl,l,b⟩;have o:=hid l;have f:=hid (d.out.trans (qc b d.out.size));clear l b;go_wp2_with fail
 go_ret2
 exact⟨v,qo (c:= .nilIface) (by rw[show(2:Int)=((2:Nat):Int)from rfl,qS];rfl),by
  have h:=qs o.out d.out.size;have e:(qk 20 m).1=List.replicate 2 0:=rfl
  rw[e,List.length_replicate];exact h,f.out⟩
theorem qcU(ln:Int)(s:ByteArray)(k n:Int)(t:ByteArray)(j:Value)(sa:Option Addr)(m sc:Nat)(w:World)(hm:m≤4096):
 Calls Tryz.prog 150 #[.agg #[.int .i64 22,.int .i64 ln,.string s,.int .i64 k,.int .i64 n,.string t,j,.slice sa m sc]] w (qp w 22 m):=by
 obtain⟨wa,a⟩: ∃wa,wa=w.alloc (.cells #[.int .i64 22,.int .i64 ln,.string s,.int .i64 k,.int .i64 n,.string t,j,.slice sa m sc] 31):=⟨_,rfl⟩
 have hb:Below w.heap.size w wa:=by rw[a];exact(Below.refl _ _).alloc (Nat.le_refl _) _
 have i:NdB wa w.heap.size (.int .i64 22) (.int .i64 ln) (.string s) (.int .i64 k) (.int .i64 n) (.string t) j (.slice sa m sc):=by rw[a];exact NdB.new _ _ _ _ _ _ _ _ _
 have v0:=i.c0;have p:=i.c7;rw[a]at v0 p;have d:=hid hb;have g:=hid a;clear hb i a;go_enter Tryz.func150,Tryz.ntmps150
 go_wp2_with fail
 rw[←g.out];refine(qV 0 2 wa (by decide) (by omega)).mono ?_;rintro e w2 ⟨v,rfl,l,b⟩;have o:=hid l;have f:=hid (d.out.trans (qc b d.out.size));clear l b;go_wp2_with fail
 go_ret2
 exact⟨v,qo (c:= .nilIface) (by rw[show(2:Int)=((2:Nat):Int)from rfl,qS];rfl),by
  have h:=qs o.out d.out.size;have e:(qk 22 m).1=List.replicate 2 0:=rfl
  rw[e,List.length_replicate];exact h,f.out⟩
section
def RwAt(w:World)(L:Nat)(n:Int):Prop:=w.heap[L]?=some (.cells #[.int .i64 n] 191 (0,0))
section
variable {w w' : World} {L : Nat} {left : Int}
theorem RwAt.lt(h:RwAt w L left):L<w.heap.size:=by
 rcases Nat.lt_or_ge L w.heap.size with a|hge
 ·exact a
 ·unfold RwAt at h;rw[Array.getElem?_eq_none hge]at h;cases h
theorem RwAt.c0(h:RwAt w L left):w.cell? ⟨L,0,none⟩=some (.int .i64 left):=cell_of_row w L 0 _ _ _ h
theorem RwAt.fr(h:RwAt w L left):w.frozen? ⟨L,0,none⟩=false:=by unfold RwAt at h;simp[World.frozen?,h]
theorem RwAt.alloc(h:RwAt w L left)(o:Obj):RwAt (w.alloc o) L left:=(Below.heap_alloc w o L h.lt).trans h
theorem RwAt.set(h:RwAt w L left)(n:Int):RwAt (w.setCell ⟨L,0,none⟩ (.int .i64 n)) L n:=by
 unfold RwAt at h⊢;simp[World.setCell,Array.getElem?_modify,h]
theorem RwAt.below(h:RwAt w L left){B:Nat}(hb:Below B w w')(a:L<B):RwAt w' L left:=(hb.block L a).trans h
theorem RwAt.new(W:World)(n:Int):RwAt (W.alloc (.cells #[.int .i64 n] 191)) W.heap.size n:=by unfold RwAt World.alloc;simp
end
theorem qfn{a b:Int}(h:a≠b):(a !=b)=true∧(a==b)=false:=by simp[h]
end
end Go.Proofs.YtggngahmafbihaaGreatDoor
