/- Contracts, and the plain mathematics beneath. -/
import Derived.WalkSmall
import Derived.IntWalk
import Derived.Test.YtggngahmafbihaaGreatDoorPerAA
set_option linter.unusedVariables false
set_option linter.unusedSimpArgs false
set_option maxRecDepth 100000
set_option maxHeartbeats 2000000
namespace Go.Proofs.YtggngahmafbihaaGreatDoor
open Go.RowKit Go.Lib
theorem xF{W W':World}{a e b n R:Nat}{v:Value}{xs:List Value}(h:W.ownsRow a e b v n xs)(hg:W.grownBy W' (some R))(i:R<a):W'.ownsRow a e b v n xs:=by
 refine⟨h.1,?_⟩;rcases h.2 with h0|⟨g,cap,d,hv,hb,f,r⟩
 ·exact .inl h0
 ·have c:g<W.heap.size:=by
   rcases Nat.lt_or_ge g W.heap.size with c|hge
   ·exact c
   ·rw[Array.getElem?_eq_none hge]at f;cases f
  exact .inr ⟨g,cap,d,hv,hb,(hg.block g c (fun e=>by injection e with e;omega)).trans f,r⟩
theorem QP(W:World)(a:Nat)(v:Value)(l:List UInt8)(h:W.ownsRow a 5 1 v l.length (Q6 l)):
 (convert 53 9 v).run Tryz.prog W= .ok (.string ⟨l.toArray⟩) W:=by
 rcases h.2 with⟨rfl,hl⟩|⟨g,cap,b,rfl,_,c,hc,_,f,i⟩
 ·obtain rfl:l= []:=List.eq_nil_of_length_eq_zero hl
  exact run_convert_bytes_nil W _ 5 Tryz.underlying53 Tryz.underlying5 0 0 _ Tryz.underlying9
 ·refine run_convert_bytes_back W _ _ 5 ⟨g,0,none⟩ cap l Tryz.underlying53 Tryz.underlying5 Tryz.underlying9 (fun j d=> ?_)
  have e:(⟨g,0,none⟩:Addr).add j=⟨g,j,none⟩:=by unfold Addr.add;split<;>simp_all
  rw[e,cell_of_row W g j b _ _ c];have h1:(b.toList.take (l.length*1))[j]?=(Q6 l)[j]?:=by rw[i]
  rw[List.getElem?_take_of_lt (by omega)]at h1;rw[←Array.getElem?_toList,h1];unfold Q6;rw[List.getElem?_map,List.getElem?_eq_getElem d];rfl
theorem kO{W:World}{a e b n:Nat}{v:Value}{xs:List Value}(h:W.ownsRow a e b v n xs)(k:Nat)(hk:v.ownBlock=some k):a≤k:=by
 rcases h.2 with⟨rfl,_⟩|⟨g,cap,c,rfl,hb,_⟩
 ·cases hk
 ·injection hk with hk;subst hk;exact hb
theorem XQ{W:World}{a:Nat}{v:Value}{l:List UInt8}{y:UInt8}(h:W.ownsRow a 5 1 v (l.length+1) (Q6 l++ [.int .u8 y.toNat])):W.ownsRow a 5 1 v (l++ [y]).length (Q6 (l++ [y])):=by
 have e1:(l++ [y]).length=l.length+1:=by simp
 have e2:Q6 (l++ [y])=Q6 l++ [.int .u8 y.toNat]:=by simp[Q6]
 rw[e1,e2];exact h
theorem JA{W:World}{a e b n R:Nat}{v u:Value}{xs:List Value}(h:W.ownsRow a e b v n xs)(c:R<a)(k:Nat):(W.setCell ⟨R,k,none⟩ u).ownsRow a e b v n xs:=
 xF h (qJ (jo W _) (.inl rfl) u) c
theorem xx(s:ByteArray)(f i:Nat)(l:List UInt8)(h:pk s i=34):qL s (f+1) i l=(i,true,l):=by rw[qL,if_pos h]
theorem xy(s:ByteArray)(f i:Nat)(l:List UInt8)(h:pk s i=92)(h2:pk s (i+1)=34∨pk s (i+1)=92):qL s (f+1) i l=qL s f (i+2) (l++ [pk s (i+1)]):=by
 rw[qL,if_neg (by rw[h];decide),if_pos h,if_pos h2]
theorem xd(s:ByteArray)(f i:Nat)(l:List UInt8)(h:pk s i=92)(h2: ¬(pk s (i+1)=34∨pk s (i+1)=92)):qL s (f+1) i l=(i+1,false,l):=by
 rw[qL,if_neg (by rw[h];decide),if_pos h,if_neg h2]
theorem xi(s:ByteArray)(f i:Nat)(l:List UInt8)(h:pk s i≠34)(h1:pk s i≠92)(h2:Qa (pk s i)=true):qL s (f+1) i l=qL s f (i+1) (l++ [pk s i]):=by
 rw[qL,if_neg h,if_neg h1,if_pos h2]
theorem kh(s:ByteArray)(f i:Nat)(l:List UInt8)(h:pk s i≠34)(h1:pk s i≠92)(h2:Qa (pk s i)=false):qL s (f+1) i l=(i,false,l):=by
 rw[qL,if_neg h,if_neg h1,if_neg (by rw[h2];decide)]
theorem jN{x:UInt8}(y:UInt8)(n:Int)(hn:(y.toNat:Int)=n)(h:x≠y):((x.toNat:Int)==n)=false∧((x.toNat:Int) !=n)=true:=by
 have:((x.toNat:Int)==n)=false:=by
  rw[beq_eq_false_iff_ne];intro e;exact h (UInt8.toNat_inj.1 (by omega))
 exact⟨this,by rw[bne,this];rfl⟩
theorem zh{s:ByteArray}{i:Nat}(h:pk s i≠0):i<s.size:=by
 rcases Nat.lt_or_ge i s.size with hi|hi
 ·exact hi
 ·exact absurd (Qv s i (by omega)) h
def ze(s:ByteArray)(i:Nat):Nat×Bool×List UInt8:=
 let r:=qL s (s.size+1) (i+1) []
 (if r.2.1 then r.1+1 else r.1,r.2.1,r.2.2)
theorem JD{a b:ByteArray}(h:a=b):Ending.returned (.string a)= .returned (.string b):=by rw[h]
theorem qhb(R:Nat)(s:ByteArray)(i:Nat)(w:World)(h:RdAt w R s i true)(hs:s.size≤1000000000)(hq:pk s i=34):
 Calls Tryz.prog 191 #[.pointer (some ⟨R,0,none⟩)] w fun e w'=>e= .returned (.string ⟨(ze s i).2.2.toArray⟩)∧Rds w w' R s (ze s i).1 (ze s i).2.1:=by
 obtain⟨i0,aa,hz0,hz1,hz2⟩:=info_parts qfc;have hi:i<s.size:=zh (by rw[hq];decide);have v:=h.lt;have tk:=fun W G=>xz R s i true 34 W G hs;have e1:zQ s i true 34=true:=by simp[zQ,hi,hq]
 have e2:zS s i true 34=i+1:=by unfold zS;rw[e1];rfl
 rw[e1,e2]at tk;have TK:=hid tk;clear tk e1 e2 hq;have S:=hid (show ze s i=(if(qL s (s.size+1) (i+1) []).2.1 then(qL s (s.size+1) (i+1) []).1+1 else(qL s (s.size+1) (i+1) []).1,(qL s (s.size+1) (i+1) []).2.1,(qL s (s.size+1) (i+1) []).2.2)from rfl);go_enter Tryz.func191,Tryz.ntmps191
 go_wp2_with fail
 refine(TK.out _ h).mono ?_;rintro e w1 ⟨rfl,hr1⟩;go_wp2_with fail
 go_loopg [3] (s.size+1) (fun k b wr=> ∃(O:Value)(j:Nat)(l:List UInt8),O=b∧wr.ownsRow w.heap.size 5 1 O l.length (Q6 l)∧l.length≤j∧Rds w wr R s j true∧j≤s.size∧s.size+1+(i+1)≤j+k∧
  Hid (qL s k j l=qL s (s.size+1) (i+1) []))
 case atStart=>exact⟨.slice none 0 0,i+1,[],rfl,World.ownsRow_nil _ _ _ _,Nat.zero_le _,hr1,by omega,by omega,rfl⟩
 case round=>
  obtain⟨O,j,l,rfl,P,hll,hr,hj,hk,H⟩:=hrel;obtain⟨f,rfl⟩: ∃f,gk=f+1:=⟨gk-1,by omega⟩
  have U:=fun W G=>xv R s j true W G;have c:=hr.at_;have j1:=c.c1;have jf1:=c.fr 1;have jf2:=c.fr 2;have j2:=c.c2;have X:=hid hr;have A:=hid P;clear hr P;obtain⟨x,hx⟩: ∃x,x=pk s j:=⟨_,rfl⟩
  rw[←hx]at U;have t:=hid U;clear U;by_cases m:pk s j=34
  ·have C:=hid (xx s f j l m)
   obtain rfl:x=34:=hx.trans m;have V:=fun W G=>xz R s j true 34 W G hs;have hj':j<s.size:=zh (by rw[m];decide);have e1:zQ s j true 34=true:=by simp[zQ,hj',m]
   have e2:zS s j true 34=j+1:=by unfold zS;rw[e1];rfl
   rw[e1,e2]at V;have TK2:=hid V;clear V e1 e2 m hx;go_wp2_with fail
   refine(t.out _ c).mono ?_;rintro e w7 ⟨rfl,J,rfl⟩;go_wp2_with fail
   refine(TK2.out _ (c.drewN _)).mono ?_;rintro e w8 ⟨rfl,ad⟩;have Z:=QP w8 w.heap.size O l (xF (R:=R) (W:=wr) A.out (zt (Z4 (jo _ _) J) ad.grown) v);go_wp2_with fail
   go_ret
   rw[S.out, ←H.out,C.out];exact⟨JD rfl,(X.out.drewN _).trans ad⟩
  have n34:=jN (x:=x) 34 34 rfl (by rw[hx];exact m);obtain⟨n34a,n34b⟩:=n34;by_cases n:pk s j=92
  ·obtain rfl:x=92:=hx.trans n
   clear n34a n34b;have hj':j<s.size:=zh (by rw[n];decide);have B:=hid ((Rds.of c).set1 (j+1));have K:=fun W G=>xv R s (j+1) true W G;obtain⟨y,Q⟩: ∃y,y=pk s (j+1):=⟨_,rfl⟩
   rw[←Q]at K;have N:=hid K;clear K;by_cases z:pk s (j+1)=34∨pk s (j+1)=92
   ·have C:=hid (xy s f j l n z)
    have ab:zY [y]=true:=by rw[Q];rcases z with e|e<;>rw[e]<;>decide
    have hj2:j+1<s.size:=zh (by rcases z with e|e<;>rw[e]<;>decide)
    have F:=hid (show ∀W,Calls Tryz.prog 225 #[.string ⟨#[y]⟩] W fun e w'=>e= .returned (.bool true)∧W=w' from fun W=>by
     have:=zZ ⟨#[y]⟩ W (by show 1≤_;omega);rw[show(ByteArray.mk #[y]).data.toList= [y]from rfl,ab]at this
     exact this)
    rw[←Q]at C
    have yy:(((y.toNat:Int) !=34)=false∨(((y.toNat:Int) !=34)=true∧((y.toNat:Int) !=92)=false)):=by
     rw[Q];rcases z with e|e
     ·rw[e];exact .inl rfl
     ·rw[e];exact .inr ⟨rfl,rfl⟩
    clear z Q hx m n ab;rcases yy with yy|⟨yy1,yy2⟩
    all_goals
     go_wp2_with fail
     refine(t.out _ c).mono ?_;rintro e w7 ⟨rfl,J,rfl⟩;go_wp2_with fail
     refine(t.out _ (c.drewN _)).mono ?_;rintro e w8 ⟨rfl,L,rfl⟩;go_wp2_with fail
     refine(N.out _ (B.out.at_.drewN _)).mono ?_;rintro e w9 ⟨rfl,n9,rfl⟩
     have af:=ZG wr.heap.size y (((wr.setCell ⟨R,1,none⟩ (.int .i64 ((j:Int)+1))).drewN (J+L+n9)).alloc (.cells #[.int .u8 y.toNat] 5)) (by
      have hz:((wr.setCell ⟨R,1,none⟩ (.int .i64 ((j:Int)+1))).drewN (J+L+n9)).heap.size=wr.heap.size:=by simp[World.setCell]
      rw[World.cell?_alloc_at _ _ _ _ hz.symm];rfl)
     go_wp2_with fail
     refine(F.out _).mono ?_;rintro e r ⟨rfl,g⟩;have d:Rds wr r R s (j+1) true:=by rw[←g];exact(B.out.drewN _).alloc _
     clear g;have q:=hid (xF A.out d.grown v);have I:=hid (X.out.trans d);clear d
     go_wp2_with (at_builtin;refine wpList_append_own _ rfl (.tmp 46) (.tmp 48) 53 rfl w.heap.size 5 i0 (.int .u8 0) 1 1 Tryz.underlying53 aa hz0 hz1 hz2 rfl (by decide) O l.length (Q6 l) rfl (q.out.alloc _) ⟨r.heap.size,0,none⟩ 1 1 [.int .u8 y.toNat] rfl rfl ?c1 ?c2 ?c3 ?c4 ?c5 ?_
                  case c1=>exact cell_one_new _ _ _
                  case c2=>intro u hu;simp at hu;subst hu;rfl
                  case c3=>unfold maxLen;omega
                  case c4=>omega
                  case c5=>exact Nat.le_trans I.out.grown.size (by simp)
                  intro v' M p o _;have a:=Rds.append (I.out.alloc _) o v (fun k hk=>kO q.out k hk);have q1:=a.at_.c1;have q2:=a.at_.fr 1;have E:=hid a;have D:=hid (XQ p)
                  clear a p o)
     go_roundg f
     case measure=>omega
     case rel=>exact⟨v',(j+1)+1,l++ [y],rfl,JA D.out v 1,by simp;omega,E.out.set1 ((j+1)+1),by omega,by omega,C.out.symm.trans H.out⟩
   ·have C:=hid (xd s f j l n z)
    have y1:=jN (x:=y) 34 34 rfl (by rw[Q];exact fun e=>z (.inl e));have y2:=jN (x:=y) 92 92 rfl (by rw[Q];exact fun e=>z (.inr e));obtain⟨y1a,y1b⟩:=y1;obtain⟨y2a,y2b⟩:=y2;have T:=hid (fun W G=>xz R s (j+1) false 34 W G hs);clear z Q hx m n;go_wp2_with fail
    refine(t.out _ c).mono ?_;rintro e w7 ⟨rfl,J,rfl⟩;go_wp2_with fail
    refine(t.out _ (c.drewN _)).mono ?_;rintro e w8 ⟨rfl,L,rfl⟩;go_wp2_with fail
    refine(N.out _ (B.out.at_.drewN _)).mono ?_;rintro e w9 ⟨rfl,n9,rfl⟩;go_wp2_with fail
    refine(T.out _ (by exact(B.out.at_.drewN _).set2 false)).mono ?_;rintro e r ⟨rfl,ac⟩;have d:Rds wr r R s (j+1) false:=((B.out.drewN _).set2 false).trans ac;have Z:=QP r w.heap.size O l (xF A.out d.grown v);go_wp2_with fail
    go_ret
    rw[S.out, ←H.out,C.out];exact⟨JD rfl,X.out.trans d⟩
  ·have n92:=jN (x:=x) 92 92 rfl (by rw[hx];exact n)
   obtain⟨n92a,n92b⟩:=n92
   cases hp:Qa (pk s j)with
   |false=>
    have C:=hid (kh s f j l m n hp)
    have F:=hid (show ∀W,Calls Tryz.prog 225 #[.string ⟨#[x]⟩] W fun e w'=>e= .returned (.bool false)∧W=w' from fun W=>by
     have:=zZ ⟨#[x]⟩ W (by show 1≤_;omega);rw[show(ByteArray.mk #[x]).data.toList= [x]from rfl,show zY [x]=false by unfold zY;rw[List.all_cons,hx,hp];rfl]at this
     exact this)
    have T:=hid (fun W G=>xz R s j false 34 W G hs);clear hp hx m n;go_wp2_with fail
    refine(t.out _ c).mono ?_;rintro e w7 ⟨rfl,J,rfl⟩;go_wp2_with fail
    refine(t.out _ (c.drewN _)).mono ?_;rintro e w8 ⟨rfl,L,rfl⟩;have af:=ZG wr.heap.size x ((wr.drewN (J+L)).alloc (.cells #[.int .u8 x.toNat] 5)) (by rw[World.cell?_alloc_at _ _ _ _ (show wr.heap.size=(wr.drewN (J+L)).heap.size from rfl)];rfl);go_wp2_with fail
    refine(F.out _).mono ?_;rintro e r ⟨rfl,g⟩;have d:Rds wr r R s j true:=by rw[←g];exact((Rds.of c).drewN _).alloc _
    have q2:=d.at_.c2;have q3:=d.at_.fr 2;have Y:=hid d;clear g d;go_wp2_with fail
    refine(T.out _ (Y.out.set2 false).at_).mono ?_;rintro e M ⟨rfl,a⟩;have ae:Rds wr M R s j false:=(Y.out.set2 false).trans a;have Z:=QP M w.heap.size O l (xF A.out ae.grown v);go_wp2_with fail
    go_ret
    rw[S.out, ←H.out,C.out];exact⟨JD rfl,X.out.trans ae⟩
   |true=>
    have C:=hid (xi s f j l m n hp);have hj2:j<s.size:=zh (fun e=>by rw[e]at hp;exact absurd hp (by decide))
    have F:=hid (show ∀W,Calls Tryz.prog 225 #[.string ⟨#[x]⟩] W fun e w'=>e= .returned (.bool true)∧W=w' from fun W=>by
     have:=zZ ⟨#[x]⟩ W (by show 1≤_;omega);rw[show(ByteArray.mk #[x]).data.toList= [x]from rfl,show zY [x]=true by unfold zY;rw[List.all_cons,hx,hp];rfl]at this
     exact this)
    rw[←hx]at C;clear hp hx m n;go_wp2_with fail
    refine(t.out _ c).mono ?_;rintro e w7 ⟨rfl,J,rfl⟩;go_wp2_with fail
    refine(t.out _ (c.drewN _)).mono ?_;rintro e w8 ⟨rfl,L,rfl⟩;have af:=ZG wr.heap.size x ((wr.drewN (J+L)).alloc (.cells #[.int .u8 x.toNat] 5)) (by rw[World.cell?_alloc_at _ _ _ _ (show wr.heap.size=(wr.drewN (J+L)).heap.size from rfl)];rfl);go_wp2_with fail
    refine(F.out _).mono ?_;rintro e r ⟨rfl,g⟩;have d:Rds wr r R s j true:=by rw[←g];exact((Rds.of c).drewN _).alloc _
    clear g;have q:=hid (xF A.out d.grown v);have I:=hid (X.out.trans d);clear d
    go_wp2_with (at_builtin;refine wpList_append_own _ rfl (.tmp 46) (.tmp 48) 53 rfl w.heap.size 5 i0 (.int .u8 0) 1 1 Tryz.underlying53 aa hz0 hz1 hz2 rfl (by decide) O l.length (Q6 l) rfl (q.out.alloc _) ⟨r.heap.size,0,none⟩ 1 1 [.int .u8 x.toNat] rfl rfl ?c1 ?c2 ?c3 ?c4 ?c5 ?_
                 case c1=>exact cell_one_new _ _ _
                 case c2=>intro u hu;simp at hu;subst hu;rfl
                 case c3=>unfold maxLen;omega
                 case c4=>omega
                 case c5=>exact Nat.le_trans I.out.grown.size (by simp)
                 intro v' M p o _;have a:=Rds.append (I.out.alloc _) o v (fun k hk=>kO q.out k hk);have q1:=a.at_.c1;have q2:=a.at_.fr 1;have E:=hid a;have D:=hid (XQ p)
                 clear a p o)
    go_roundg f
    case measure=>omega
    case rel=>exact⟨v',j+1,l++ [x],rfl,JA D.out v 1,by simp;omega,E.out.set1 (j+1),by omega,by omega,C.out.symm.trans H.out⟩
def jy:List ByteArray:= [⟨#[69,95,78,79,78,69]⟩,⟨#[69,95,84,89,80,69]⟩,⟨#[69,95,68,73,86]⟩,⟨#[69,95,80,69,82,77]⟩,⟨#[69,95,80,82,79,80,78,70]⟩,⟨#[69,95,86,69,82,66,78,70]⟩,
 ⟨#[69,95,86,65,82,78,70]⟩,⟨#[69,95,73,78,86,73,78,68]⟩,⟨#[69,95,82,69,67,77,79,86,69]⟩,⟨#[69,95,77,65,88,82,69,67]⟩,⟨#[69,95,82,65,78,71,69]⟩,⟨#[69,95,65,82,71,83]⟩,
 ⟨#[69,95,78,65,67,67]⟩,⟨#[69,95,73,78,86,65,82,71]⟩,⟨#[69,95,81,85,79,84,65]⟩]
theorem kC:jy.length=15:=rfl
theorem KR(w:World):Calls Tryz.prog 157 #[] w fun e w'=>e= .returned (.slice (some ⟨w.heap.size,0,none⟩) 15 15)∧w'=w.alloc (.cells (jy.map Value.string).toArray 9):=by
 go_enter Tryz.func157,Tryz.ntmps157
 go_wp2
 go_ret
 exact⟨rfl,rfl⟩
def Qq(s:ByteArray)(i:Nat)(n:ByteArray):Nat→Nat→Nat
 |0,k=>k
 |f+1,k=>if k<n.size∧i+k<s.size∧pk s (i+k)=pk n k then Qq s i n f (k+1)else k
def cp(s:ByteArray)(i:Nat)(n:ByteArray):Nat:=Qq s i n (n.size+1) 0
def zU(s:ByteArray)(i:Nat)(n:ByteArray)(c:Nat)(r:Int×Int×Int):Int×Int×Int:=
 if(cp s i n=n.size∧r.2.1<cp s i n)then(c,cp s i n,max r.2.2 (cp s i n))else(r.1,r.2.1,max r.2.2 (cp s i n))
def zn(s:ByteArray)(i:Nat):Nat→Int×Int×Int
 |0=>(0, -1,0)
 |c+1=>zU s i (jy.getD c ByteArray.empty) c (zn s i c)
def jk(s:ByteArray)(i:Nat):Nat×Bool×Int:=
 let r:=zn s i 15
 if r.2.1<0 then(i+r.2.2.toNat,false,r.1)else(i+r.2.1.toNat,true,r.1)
theorem qa2(s:ByteArray)(i:Nat)(n:ByteArray): ∀(f k:Nat),k≤n.size→k≤Qq s i n f k∧Qq s i n f k≤n.size
 |0,k,h=>⟨Nat.le_refl _,h⟩
 |f+1,k,h=>by
  unfold Qq;split
  ·rename_i hc
   have:=qa2 s i n f (k+1) (by omega);omega
  ·omega
theorem qgO(s:ByteArray)(i:Nat)(n:ByteArray):cp s i n≤n.size:=(qa2 s i n _ 0 (Nat.zero_le _)).2
theorem XL: ∀n∈jy,n.size≤20:=by decide
theorem kG(s:ByteArray)(i:Nat): ∀c,c≤15→(0≤(zn s i c).1∧(zn s i c).1≤14)∧(-1≤(zn s i c).2.1∧(zn s i c).2.1≤20)∧(0≤(zn s i c).2.2∧(zn s i c).2.2≤20)
 |0,_=>by simp[zn]
 |c+1,h=>by
  obtain⟨h1,h2,h3⟩:=kG s i c (by omega);have hc:c<jy.length:=by rw[kC];omega
  have hn:(jy.getD c ByteArray.empty).size≤20:=by
   rw[List.getD_eq_getElem?_getD,List.getElem?_eq_getElem hc];exact XL _ (List.getElem_mem hc)
  have a:=qgO s i (jy.getD c ByteArray.empty);rw[zn,zU];split
  ·refine⟨?_,?_,?_⟩<;>simp only<;>omega
  ·refine⟨?_,?_,?_⟩<;>simp only<;>omega
theorem qcd(s:ByteArray)(i:Nat)(n:ByteArray)(f k:Nat)(h:k<n.size∧i+k<s.size∧pk s (i+k)=pk n k):Qq s i n (f+1) k=Qq s i n f (k+1):=by
 rw[Qq,if_pos h]
theorem ZD(s:ByteArray)(i:Nat)(n:ByteArray)(f k:Nat)(h: ¬(k<n.size∧i+k<s.size∧pk s (i+k)=pk n k)):Qq s i n f k=k:=by
 cases f with
 |zero=>rfl
 |succ f=>rw[Qq,if_neg h]
theorem Z1(w:World)(c:Nat)(hc:c<15)(n:Nat):((w.alloc (.cells (jy.map Value.string).toArray 9)).drewN n).cell? ⟨w.heap.size,c,none⟩=some (.string (jy.getD c ByteArray.empty)):=by
 show(w.alloc (.cells (jy.map Value.string).toArray 9)).cell? ⟨w.heap.size,c,none⟩=_
 rw[World.cell?_alloc_at _ _ _ _ rfl];have hc':c<jy.length:=by rw[kC];omega
 rw[List.getD_eq_getElem?_getD,List.getElem?_eq_getElem hc'];simp[hc']
theorem qfp(R:Nat)(s:ByteArray)(i:Nat)(w:World)(h:RdAt w R s i true)(hs:s.size≤1000000000)(hi:i≤s.size):
 Calls Tryz.prog 194 #[.pointer (some ⟨R,0,none⟩)] w fun e w'=>e= .returned (.int .i64 (jk s i).2.2)∧Rds w w' R s (jk s i).1 (jk s i).2.1:=by
 have U:=h.lt;have F:=hid (Z1 w);obtain⟨E,B⟩: ∃E,E=w.alloc (.cells (jy.map Value.string).toArray 9):=⟨_,rfl⟩
 have p:Rds w E R s i true:=by rw[B];exact(Rds.of h).alloc _
 have l:=KR w;rw[←B]at F l;have M:=hid (l.mono (fun e w' ⟨W,hw⟩=>(⟨W,hw.symm⟩:e=_∧E=w')));clear l;have G:=hid p;have a0:=p.at_.c0;have a1:=p.at_.c1;have a2:=p.at_.c2;have S:=p.at_.fr 1;have T:=p.at_.fr 2;clear p h;go_enter Tryz.func194,Tryz.ntmps194
 go_wp2_with fail
 refine M.out.mono ?_;rintro e w' ⟨rfl,rfl⟩;clear B;go_wp2_with fail
 go_loopg [3,4,5,11] 15 (fun k v3 v4 v5 P wr=> ∃(c n:Nat)(x y z:Int),c+k=15∧P= .int .i64 c∧wr=E.drewN n∧v3= .int .i64 x∧v4= .int .i64 y∧v5= .int .i64 z∧Hid (zn s i c=(x,y,z)))
 case atStart=>exact⟨0,0,0, -1,0,rfl,rfl,rfl,rfl,rfl,rfl,rfl⟩
 case round=>
  obtain⟨c,n,x,y,z,V,rfl,rfl,rfl,rfl,rfl,A⟩:=hrel;have v:=kG s i c (by omega);rw[A.out]at v;obtain⟨⟨x1,x2⟩,⟨y1,y2⟩,⟨Q,z2⟩⟩:=v;simp only at x1 x2 y1 y2 Q z2;by_cases N:c<15
  ·obtain⟨f,rfl⟩: ∃f,gk=f+1:=⟨gk-1,by omega⟩
   obtain⟨nm,l⟩: ∃nm,nm=jy.getD c ByteArray.empty:=⟨_,rfl⟩
   have hcell:=F.out c N n;rw[←l]at hcell
   have Y:nm.size≤20:=by
    rw[l,List.getD_eq_getElem?_getD,List.getElem?_eq_getElem (by rw[kC];omega)];exact XL _ (List.getElem_mem _)
   have j:=hid (show zn s i (c+1)=zU s i nm c (x,y,z)by rw[zn,A.out,l]);clear l;go_wp2_with fail
   go_loopg [8] (nm.size+1) (fun k' v8 wr=> ∃(m n':Nat),v8= .int .i64 m∧wr=E.drewN n'∧m≤nm.size∧nm.size+1=m+k'∧Hid (Qq s i nm k' m=cp s i nm))
   case atStart=>exact⟨0,n,rfl,rfl,Nat.zero_le _,by omega,rfl⟩
   case round=>
    obtain⟨m,n',rfl,rfl,hm,X,u⟩:=hrel;obtain⟨J,rfl⟩: ∃J,gk=J+1:=⟨gk-1,by omega⟩
    by_cases o:m<nm.size
    ·have K:decide ((m:Int)<(nm.size:Int))=true:=by simpa using o
     by_cases t:i+m<s.size
     ·by_cases hb:pk s (i+m)=pk nm m
      ·have L:=hid ((qcd s i nm J m ⟨o,t,hb⟩).symm.trans u.out)
       have Z:((s[i+m].toNat:Int)==(nm[m].toNat:Int))=true:=by rw[←qK s _ t, ←qK nm _ o,hb];simp
       have hm2':(i:Int)+(m:Int)<(s.size:Int):=by omega
       have q:IntKind.i64.wrap ((i:Int)+(m:Int))=(i:Int)+(m:Int):=IntWalk.i64_in _ ⟨by omega,by omega⟩;have C:(0:Int)≤(i:Int)+(m:Int):=by omega
       have D:((i:Int)+(m:Int)).toNat=i+m:=by omega
       clear hb K
       go_wp2
       go_quiet (fail)
       clear q
       go_wp2
       go_roundg J
       case measure=>omega
       case rel=>exact⟨m+1,_,by go_num,rfl,by omega,by omega,L.out⟩
      ·have g:=hid (u.out.symm.trans (ZD s i nm _ m (fun I=>hb I.2.2)))
       have Z:((s[i+m].toNat:Int)==(nm[m].toNat:Int))=false:=by
        rw[←qK s _ t, ←qK nm _ o,beq_eq_false_iff_ne];intro e;exact hb (UInt8.toNat_inj.1 (by omega))
       have hm2':(i:Int)+(m:Int)<(s.size:Int):=by omega
       clear hb K;by_cases a:m=nm.size
       ·have e1:((m:Int)==(nm.size:Int))=true:=by rw[a];simp
        by_cases d:y<(m:Int)
        ·have b:=hid (show zn s i (c+1)=((c:Int),(m:Int),max z (m:Int))by rw[j.out,zU,if_pos ⟨by rw[g.out,a],by rw[g.out];exact d⟩,g.out])
         clear a;have C:(0:Int)≤(i:Int)+(m:Int):=by omega
         have D:((i:Int)+(m:Int)).toNat=i+m:=by omega
         have q:IntKind.i64.wrap ((i:Int)+(m:Int))=(i:Int)+(m:Int):=IntWalk.i64_in _ ⟨by omega,by omega⟩
         go_wp2
         go_quiet (fail)
         clear q
         go_wp2
         all_goals
          go_roundg f
          case measure=>omega
          case rel=>exact⟨c+1,_,_,_,max z (m:Int),by omega,by go_num,rfl,rfl,rfl,(by congr 1;omega),b.out⟩
        ·have hmore':(m:Int)≤y:=by omega
         have b:=hid (show zn s i (c+1)=(x,y,max z (m:Int))by rw[j.out,zU,if_neg (by rw[g.out];simp only;omega),g.out]);clear d a;have C:(0:Int)≤(i:Int)+(m:Int):=by omega
         have D:((i:Int)+(m:Int)).toNat=i+m:=by omega
         have q:IntKind.i64.wrap ((i:Int)+(m:Int))=(i:Int)+(m:Int):=IntWalk.i64_in _ ⟨by omega,by omega⟩
         go_wp2
         go_quiet (fail)
         clear q
         go_wp2
         all_goals
          go_roundg f
          case measure=>omega
          case rel=>exact⟨c+1,_,_,_,max z (m:Int),by omega,by go_num,rfl,rfl,rfl,(by congr 1;omega),b.out⟩
       ·have e1:((m:Int)==(nm.size:Int))=false:=by rw[beq_eq_false_iff_ne];omega
        have b:=hid (show zn s i (c+1)=(x,y,max z (m:Int))by rw[j.out,zU,if_neg (by rw[g.out];omega),g.out]);clear a;have C:(0:Int)≤(i:Int)+(m:Int):=by omega
        have D:((i:Int)+(m:Int)).toNat=i+m:=by omega
        have q:IntKind.i64.wrap ((i:Int)+(m:Int))=(i:Int)+(m:Int):=IntWalk.i64_in _ ⟨by omega,by omega⟩
        go_wp2
        go_quiet (fail)
        clear q
        go_wp2
        all_goals
         go_roundg f
         case measure=>omega
         case rel=>exact⟨c+1,_,_,_,max z (m:Int),by omega,by go_num,rfl,rfl,rfl,(by congr 1;omega),b.out⟩
     ·have g:=hid (u.out.symm.trans (ZD s i nm _ m (fun I=>t I.2.1)))
      have hm2':(s.size:Int)≤(i:Int)+(m:Int):=by omega
      have hm2'':decide ((i:Int)+(m:Int)<(s.size:Int))=false:=by simpa using hm2'
      clear K t;by_cases a:m=nm.size
      ·have e1:((m:Int)==(nm.size:Int))=true:=by rw[a];simp
       by_cases d:y<(m:Int)
       ·have b:=hid (show zn s i (c+1)=((c:Int),(m:Int),max z (m:Int))by rw[j.out,zU,if_pos ⟨by rw[g.out,a],by rw[g.out];exact d⟩,g.out])
        clear a;have C:(0:Int)≤(i:Int)+(m:Int):=by omega
        have D:((i:Int)+(m:Int)).toNat=i+m:=by omega
        have q:IntKind.i64.wrap ((i:Int)+(m:Int))=(i:Int)+(m:Int):=IntWalk.i64_in _ ⟨by omega,by omega⟩
        go_wp2
        go_quiet (fail)
        clear q
        go_wp2
        all_goals
         go_roundg f
         case measure=>omega
         case rel=>exact⟨c+1,_,_,_,max z (m:Int),by omega,by go_num,rfl,rfl,rfl,(by congr 1;omega),b.out⟩
       ·have hmore':(m:Int)≤y:=by omega
        have b:=hid (show zn s i (c+1)=(x,y,max z (m:Int))by rw[j.out,zU,if_neg (by rw[g.out];simp only;omega),g.out]);clear d a;have C:(0:Int)≤(i:Int)+(m:Int):=by omega
        have D:((i:Int)+(m:Int)).toNat=i+m:=by omega
        have q:IntKind.i64.wrap ((i:Int)+(m:Int))=(i:Int)+(m:Int):=IntWalk.i64_in _ ⟨by omega,by omega⟩
        go_wp2
        go_quiet (fail)
        clear q
        go_wp2
        all_goals
         go_roundg f
         case measure=>omega
         case rel=>exact⟨c+1,_,_,_,max z (m:Int),by omega,by go_num,rfl,rfl,rfl,(by congr 1;omega),b.out⟩
      ·have e1:((m:Int)==(nm.size:Int))=false:=by rw[beq_eq_false_iff_ne];omega
       have b:=hid (show zn s i (c+1)=(x,y,max z (m:Int))by rw[j.out,zU,if_neg (by rw[g.out];omega),g.out]);clear a;have C:(0:Int)≤(i:Int)+(m:Int):=by omega
       have D:((i:Int)+(m:Int)).toNat=i+m:=by omega
       have q:IntKind.i64.wrap ((i:Int)+(m:Int))=(i:Int)+(m:Int):=IntWalk.i64_in _ ⟨by omega,by omega⟩
       go_wp2
       go_quiet (fail)
       clear q
       go_wp2
       all_goals
        go_roundg f
        case measure=>omega
        case rel=>exact⟨c+1,_,_,_,max z (m:Int),by omega,by go_num,rfl,rfl,rfl,(by congr 1;omega),b.out⟩
    ·have g:=hid (u.out.symm.trans (ZD s i nm _ m (fun I=>o I.1)))
     have K:decide (m<nm.size)=false:=by simpa using o
     have hm1':(nm.size:Int)≤(m:Int):=by omega
     clear o;by_cases a:m=nm.size
     ·have e1:((m:Int)==(nm.size:Int))=true:=by rw[a];simp
      by_cases d:y<(m:Int)
      ·have b:=hid (show zn s i (c+1)=((c:Int),(m:Int),max z (m:Int))by rw[j.out,zU,if_pos ⟨by rw[g.out,a],by rw[g.out];exact d⟩,g.out])
       clear a
       go_wp2
       go_quiet (fail)
       go_wp2
       all_goals
        go_roundg f
        case measure=>omega
        case rel=>exact⟨c+1,_,_,_,max z (m:Int),by omega,by go_num,rfl,rfl,rfl,(by congr 1;omega),b.out⟩
      ·have hmore':(m:Int)≤y:=by omega
       have b:=hid (show zn s i (c+1)=(x,y,max z (m:Int))by rw[j.out,zU,if_neg (by rw[g.out];simp only;omega),g.out]);clear d a
       go_wp2
       go_quiet (fail)
       go_wp2
       all_goals
        go_roundg f
        case measure=>omega
        case rel=>exact⟨c+1,_,_,_,max z (m:Int),by omega,by go_num,rfl,rfl,rfl,(by congr 1;omega),b.out⟩
     ·have e1:((m:Int)==(nm.size:Int))=false:=by rw[beq_eq_false_iff_ne];omega
      have b:=hid (show zn s i (c+1)=(x,y,max z (m:Int))by rw[j.out,zU,if_neg (by rw[g.out];omega),g.out]);clear a
      go_wp2
      go_quiet (fail)
      go_wp2
      all_goals
       go_roundg f
       case measure=>omega
       case rel=>exact⟨c+1,_,_,_,max z (m:Int),by omega,by go_num,rfl,rfl,rfl,(by congr 1;omega),b.out⟩
  ·have H:c=15:=by omega
   subst H;have r:=hid (show jk s i=if y<0 then(i+z.toNat,false,x)else(i+y.toNat,true,x)by unfold jk;rw[A.out]);obtain⟨z',rfl⟩:=Int.eq_ofNat_of_zero_le Q;by_cases O:y<0
   ·rw[if_pos O,Int.toNat_natCast]at r
    go_wp2
    go_ret
    rw[r.out];exact⟨zm rfl,((G.out.drewN n).set2 false).set1 (i+z')⟩
   ·rw[if_neg O]at r
    have hy':0≤y:=by omega
    obtain⟨y',rfl⟩:=Int.eq_ofNat_of_zero_le hy';rw[Int.toNat_natCast]at r;clear O
    go_wp2
    go_ret
    rw[r.out];exact⟨zm rfl,(G.out.drewN n).set1 (i+y')⟩
def zv(k n:Int)(s:ByteArray)(sub:VL):VL:= .cons k n s sub .nil
mutual
def qI(s:ByteArray):Nat→Nat→Nat×Bool×VL
 |0,i=>(i,false,.nil)
 |f+1,i=>
  if pk s i=35 then((qW s (-2147483648) 2147483647 (i+1)).1,(qW s (-2147483648) 2147483647 (i+1)).2.1,zv 1 (qW s (-2147483648) 2147483647 (i+1)).2.2 ByteArray.empty .nil)
  else if pk s i=45∨qt (pk s i)=true then((qW s (-9223372036854775808) 9223372036854775807 i).1,(qW s (-9223372036854775808) 9223372036854775807 i).2.1,zv 0 (qW s (-9223372036854775808) 9223372036854775807 i).2.2 ByteArray.empty .nil)
  else if pk s i=34 then((ze s i).1,(ze s i).2.1,zv 2 0 ⟨(ze s i).2.2.toArray⟩ .nil)
  else if pk s i=123 then
   if pk s (i+1)=125 then(i+2,true,zv 4 0 ByteArray.empty .nil)
   else((zy s f (i+1) .nil).1,(zy s f (i+1) .nil).2.1,zv 4 0 ByteArray.empty (zy s f (i+1) .nil).2.2)
  else((jk s i).1,(jk s i).2.1,zv 3 (jk s i).2.2 ByteArray.empty .nil)
def zy(s:ByteArray):Nat→Nat→VL→Nat×Bool×VL
 |0,i,acc=>(i,false,acc)
 |f+1,i,acc=>
  if(qI s f i).2.1=false then((qI s f i).1,false,acc)
  else if pk s (qI s f i).1=44 then
   if pk s ((qI s f i).1+1)=32 then zy s f ((qI s f i).1+2) (acc.app (qI s f i).2.2)
   else((qI s f i).1+1,false,acc.app (qI s f i).2.2)
  else if pk s (qI s f i).1=125 then((qI s f i).1+1,true,acc.app (qI s f i).2.2)
  else((qI s f i).1,false,acc.app (qI s f i).2.2)
end
theorem ks(s:ByteArray)(b a:Int)(neg:Bool): ∀(f i:Nat)(n:Int),i≤s.size→i≤(zx s b a neg f i n).1∧(zx s b a neg f i n).1≤s.size
 |0,i,n,h=>⟨Nat.le_refl _,h⟩
 |f+1,i,n,h=>by
  cases hd:qt (pk s i)with
  |false=>rw[Qh _ _ _ _ _ _ _ hd];exact⟨Nat.le_refl _,h⟩
  |true=>
   have hi:=Jr hd;by_cases hg:n< -922337203685477580∨10*n< -9223372036854775808+((pk s i).toNat-48:Int)∨(neg=true∧10*n-((pk s i).toNat-48:Int)<b)∨(neg=false∧10*n-((pk s i).toNat-48:Int)< -a)
   ·rw[Qg _ _ _ _ _ _ _ hd hg];exact⟨Nat.le_refl _,h⟩
   ·rw[kM _ _ _ _ _ _ _ hd hg]
    have:=ks s b a neg f (i+1) (10*n-((pk s i).toNat-48:Int)) (by omega);omega
theorem Zv(s:ByteArray)(b a:Int)(i:Nat)(h:i≤s.size):i≤(qW s b a i).1∧(qW s b a i).1≤s.size:=by
 unfold qW;split
 ·rename_i c
  have hi:i<s.size:=zh (by rw[c];decide);split
  ·simp only;omega
  ·have:=ks s b a true (s.size+1) (i+1) 0 (by omega)
   omega
 ·split
  ·rename_i d
   have hi:i<s.size:=zh (by rw[d];decide);simp only;omega
  ·split
   ·exact⟨Nat.le_refl _,h⟩
   ·exact ks s b a false (s.size+1) i 0 h
theorem jX(s:ByteArray): ∀(f i:Nat)(l:List UInt8),i≤s.size→i≤(qL s f i l).1∧(qL s f i l).1≤s.size∧(0<f→s.size<i+f→(qL s f i l).2.1=true→pk s (qL s f i l).1=34)
 |0,i,l,h=>⟨Nat.le_refl _,h,fun h0=>absurd h0 (by omega)⟩
 |f+1,i,l,h=>by
  by_cases b:pk s i=34
  ·rw[xx _ _ _ _ b];exact⟨Nat.le_refl _,h,fun _ _ _=>b⟩
  by_cases a:pk s i=92
  ·have hi:i<s.size:=zh (by rw[a];decide)
   by_cases c:pk s (i+1)=34∨pk s (i+1)=92
   ·rw[xy _ _ _ _ a c]
    have d:i+1<s.size:=zh (by rcases c with e|e<;>rw[e]<;>decide);have:=jX s f (i+2) (l++ [pk s (i+1)]) (by omega);exact⟨by omega,this.2.1,fun _ hb hc=>this.2.2 (by omega) (by omega) hc⟩
   ·rw[xd _ _ _ _ a c];exact⟨by simp,by simp only;omega,fun _ _ hc=>by cases hc⟩
  cases hp:Qa (pk s i)with
  |false=>rw[kh _ _ _ _ b a hp];exact⟨Nat.le_refl _,h,fun _ _ hc=>by cases hc⟩
  |true=>
   have hi:i<s.size:=zh (fun e=>by rw[e]at hp;exact absurd hp (by decide));rw[xi _ _ _ _ b a hp];have:=jX s f (i+1) (l++ [pk s i]) (by omega);exact⟨by omega,this.2.1,fun _ hb hc=>this.2.2 (by omega) (by omega) hc⟩
theorem KF(s:ByteArray)(i:Nat)(h:i<s.size):i≤(ze s i).1∧(ze s i).1≤s.size:=by
 have:=jX s (s.size+1) (i+1) [] (by omega);unfold ze;simp only;split
 ·rename_i b
  have a:=this.2.2 (by omega) (by omega) b;have:=zh (s:=s) (i:=(qL s (s.size+1) (i+1) []).1) (by rw[a];decide);omega
 ·omega
theorem Xt(s:ByteArray)(i:Nat)(n:ByteArray): ∀(f k:Nat),i+k≤s.size→i+Qq s i n f k≤s.size
 |0,k,h=>h
 |f+1,k,h=>by
  unfold Qq;split
  ·rename_i hc
   exact Xt s i n f (k+1) (by omega)
  ·exact h
theorem Zu(s:ByteArray)(i:Nat)(h:i≤s.size): ∀c,(i:Int)+(zn s i c).2.1≤s.size∧(i:Int)+(zn s i c).2.2≤s.size
 |0=>by simp[zn];omega
 |c+1=>by
  obtain⟨h1,h2⟩:=Zu s i h c;have h3:=Xt s i (jy.getD c ByteArray.empty) ((jy.getD c ByteArray.empty).size+1) 0 (by omega);have h4:i+cp s i (jy.getD c ByteArray.empty)≤s.size:=h3;rw[zn,zU];split<;>simp only<;>omega
theorem Xr(s:ByteArray)(i:Nat)(h:i≤s.size):i≤(jk s i).1∧(jk s i).1≤s.size:=by
 have h1:=Zu s i h 15;have h2:=kG s i 15 (Nat.le_refl _);unfold jk;simp only;split
 ·simp only;omega
 ·simp only;omega
mutual
theorem Qk(s:ByteArray): ∀(f i:Nat),i≤s.size→i≤(qI s f i).1∧(qI s f i).1≤s.size
 |0,i,h=>by rw[qI];exact⟨Nat.le_refl _,h⟩
 |f+1,i,h=>by
  rw[qI];split
  ·rename_i e
   have hi:i<s.size:=zh (by rw[e];decide);have:=Zv s (-2147483648) 2147483647 (i+1) (by omega);simp only;omega
  ·split
   ·exact Zv s _ _ i h
   ·split
    ·rename_i e
     exact KF s i (zh (by rw[e];decide))
    ·split
     ·rename_i e
      have hi:i<s.size:=zh (by rw[e];decide);split
      ·rename_i e2
       have a:i+1<s.size:=zh (by rw[e2];decide);simp only;omega
      ·have:=Qf s f (i+1) .nil (by omega)
       simp only;omega
     ·exact Xr s i h
theorem Qf(s:ByteArray): ∀(f i:Nat)(acc:VL),i≤s.size→i≤(zy s f i acc).1∧(zy s f i acc).1≤s.size
 |0,i,acc,h=>by rw[zy];exact⟨Nat.le_refl _,h⟩
 |f+1,i,acc,h=>by
  have hv:=Qk s f i h;rw[zy];split
  ·exact hv
  ·split
   ·rename_i e
    have hi:(qI s f i).1<s.size:=zh (by rw[e];decide);split
    ·rename_i e2
     have a:(qI s f i).1+1<s.size:=zh (by rw[e2];decide);have:=Qf s f ((qI s f i).1+2) (acc.app (qI s f i).2.2) (by omega);omega
    ·simp only;omega
   ·split
    ·rename_i e
     have hi:(qI s f i).1<s.size:=zh (by rw[e];decide);simp only;omega
    ·exact hv
end
theorem qbX(s:ByteArray)(f i:Nat)(h:(qI s f i).2.1=true): ∃k n t sub,(qI s f i).2.2=zv k n t sub:=by
 cases f with
 |zero=>rw[qI]at h;cases h
 |succ f=>
  rw[qI]at h⊢;split
  ·exact⟨_,_,_,_,rfl⟩
  ·split
   ·exact⟨_,_,_,_,rfl⟩
   ·split
    ·exact⟨_,_,_,_,rfl⟩
    ·split
     ·split<;>exact⟨_,_,_,_,rfl⟩
     ·exact⟨_,_,_,_,rfl⟩
end Go.Proofs.YtggngahmafbihaaGreatDoor
