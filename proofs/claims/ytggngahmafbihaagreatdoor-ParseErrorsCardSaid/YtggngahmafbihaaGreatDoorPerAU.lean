/- Contracts, and the plain mathematics beneath. -/
import Derived.Test.YtggngahmafbihaaGreatDoorPerAH
import Derived.Test.YtggngahmafbihaaGreatDoorPerAI
import Derived.Test.YtggngahmafbihaaGreatDoorPerAL
set_option linter.unusedVariables false
set_option linter.unusedSimpArgs false
set_option maxRecDepth 100000
set_option maxHeartbeats 16000000
namespace Go.Proofs.YtggngahmafbihaaGreatDoor
open Go.RowKit Go.Lib
section
def Jn(X:PCtx)(f:Nat):Prop:= ∀(es:List (List UInt8)) (G:Nat) (w:World) (p:PS) (r:NL×PS),PSt w X p→0≤p.deep→p.deep≤160→es.length≤100→StrG w G es→X.P<G→qa X.l f (.block es) p=some r→
 Calls Tryz.prog 70 #[.pointer (some ⟨X.P,0,none⟩),.slice (some ⟨G,0,none⟩) es.length es.length] w (PNd X (fun k=>w.heap.size≤k) w p f r)
structure SC (X:PCtx) (F:Nat):Prop where
 head: ∀f,f≤F→zP X 69 #[] .head f
 block: ∀f,f≤F→Jn X f
 stmt: ∀f,f≤F→zP X 36 #[] .stmt f
def Frm(X:PCtx)(g:Nat)(w e:World):Prop:=w.heap.size≤e.heap.size∧ ∀(g0:Nat)(b d1 d2 d3 d4 d5 c d:Value),g0<w.heap.size→g0≠g→X.P<g0→NdB w g0 b d1 d2 d3 d4 d5 c d→NdB e g0 b d1 d2 d3 d4 d5 c d
theorem Frm.refl(X:PCtx)(g:Nat)(w:World):Frm X g w w:=⟨Nat.le_refl _,fun _ _ _ _ _ _ _ _ _ _ _ _ h=>h⟩
theorem Frm.grown{X:PCtx}{g:Nat}{w wr w':World}(h:Frm X g w wr)(hg:wr.grownBy w' (some X.P)):Frm X g w w':=⟨Nat.le_trans h.1 hg.size,fun g0 b d1 d2 d3 d4 d5 c d h1 h2 h3 h4=>NdB.grown (h.2 g0 b d1 d2 d3 d4 d5 c d h1 h2 h3 h4) hg h3⟩
theorem Frm.below{X:PCtx}{g:Nat}{w wr w':World}(h:Frm X g w wr)(hb:Below wr.heap.size wr w'):Frm X g w w':=⟨Nat.le_trans h.1 hb.size,fun g0 b d1 d2 d3 d4 d5 c d h1 h2 h3 h4=>(h.2 g0 b d1 d2 d3 d4 d5 c d h1 h2 h3 h4).below' hb⟩
theorem Frm.filled{X:PCtx}{g:Nat}{w wr w':World}(h:Frm X g w wr)(hg:wr.grownBy w' (some g)):Frm X g w w':=⟨Nat.le_trans h.1 hg.size,fun g0 b d1 d2 d3 d4 d5 c d h1 h2 h3 h4=>(h.2 g0 b d1 d2 d3 d4 d5 c d h1 h2 h3 h4).apart hg h2⟩
theorem Frm.stored{X:PCtx}{g b:Nat}{w wr w':World}(h:Frm X g w wr)(hg:wr.grownBy w' (some b))(h0:w.heap.size≤b):Frm X g w w':=⟨Nat.le_trans h.1 hg.size,fun g0 c d1 d2 d3 d4 d5 d e h1 h2 h3 h4=>(h.2 g0 c d1 d2 d3 d4 d5 d e h1 h2 h3 h4).apart hg (by omega)⟩
theorem Frm.then_{X:PCtx}{g b:Nat}{w wr w':World}(h:Frm X g w wr)(hb:w.heap.size≤b)(hz:wr.heap.size≤w'.heap.size)(hf: ∀(g0:Nat)(c d1 d2 d3 d4 d5 d e:Value),g0<b→g0≠g→X.P<g0→NdB wr g0 c d1 d2 d3 d4 d5 d e→NdB w' g0 c d1 d2 d3 d4 d5 d e):Frm X g w w':=
 ⟨Nat.le_trans h.1 hz,fun g0 c d1 d2 d3 d4 d5 d e h1 h2 h3 h4=>hf g0 c d1 d2 d3 d4 d5 d e (by omega) h2 h3 (h.2 g0 c d1 d2 d3 d4 d5 d e h1 h2 h3 h4)⟩
def qgG(X:PCtx)(a g:World)(q:PS)(c b:Nat)(h c1 c2 c3 c4 c5 i:Value)(l:NL)(m:Nat)(d:Int)(e:World):Prop:=
 ∃f,Mvd a e X q∧q.deep=d∧NdB e b h c1 c2 c3 c4 c5 i f∧OwnN e (DG c b) f l∧l.len≤m∧qQ l∧Frm X b g e
def Q8(X:PCtx)(b:Nat)(f:Nat)(R:PS→Option (NL×ByteArray×Int×PS)):Prop:= ∀(a w:World)(p:PS)(g:Nat)(ln:Int)(l:NL)(s:ByteArray)(o:Int)(q:PS),Mvd a w X p→NdB w g (.int .i64 0) (.int .i64 ln) (.string ⟨#[]⟩) (.int .i64 0) (.int .i64 0) (.string ⟨#[]⟩) (.slice none 0 0) (.slice none 0 0)→X.P<g→a.heap.size≤g→0≤p.deep→p.deep≤160→R p=some (l,s,o,q)→
 Calls Tryz.prog b #[.pointer (some ⟨X.P,0,none⟩),.pointer (some ⟨g,0,none⟩)] w fun e w'=>e= .returned (.tuple #[])∧qgG X a w q w.heap.size g (.int .i64 o) (.int .i64 ln) (.string s) (.int .i64 0) (.int .i64 0) (.string ⟨#[]⟩) (.slice none 0 0) l (2*f+10) p.deep w'
theorem qdh{w:World}{S:Nat→Prop}{g:Nat}(h:zN w g)(hg:S g):RpN w S jw (some ⟨g,0,none⟩):=
 ⟨g,0,none,0,none,0,rfl,hg,h.c0,h.c1,h.c2,h.c3,h.c4,h.c5,h.c6,Nat.zero_le _,trivial,h.c7,Nat.zero_le _,trivial,trivial⟩
theorem QJ{w:World}{S:Nat→Prop}: ∀(a b:NL)(xs:List Value),jG w S (a.app b) xs→ ∃c d,xs=c++d∧jG w S a c∧jG w S b d
 | .nil,b,xs,h=>⟨[],xs,rfl,rfl,h⟩
 | .cons _ _ _ _ _ _ _ _ r,b,xs,⟨va,vc,sa,sc,ys,h,h1,h2,h3,h4,hr⟩=>by
   obtain⟨c,d,e,e1,e2⟩:=QJ r b ys hr;exact⟨_,d,by rw[h,e, ←List.append_assoc],⟨va,vc,sa,sc,c,rfl,h1,h2,h3,h4,e1⟩,e2⟩
theorem OwnN.slot{w:World}{D:Nat→Prop}{A:Option Addr}{c:Nat}{l:NL}(h:OwnN w D (.slice A (l.len+1) c) (l.app jw)):
 ∃g,A=some ⟨g,0,none⟩∧D g∧g<w.heap.size∧(∀j,j<8→(w.cell? ⟨g,l.len*8+j,none⟩).isSome=true)∧ ∀j,w.frozen? ⟨g,j,none⟩=false:=by
 obtain⟨xs,f,m,hx⟩:=h;obtain⟨p,q,e,h1,h2⟩:=QJ l jw xs hx;have i:=xZ l p h1;have k:=xZ jw q h2;have hl:(l.app jw).len=l.len+1:=by rw[NL.len_app];rfl
 rcases f.2 with⟨h0,n⟩|⟨g,cap,b,hv,hb,hg,r⟩
 ·omega
 ·simp only[Value.slice.injEq]at hv
  obtain⟨rfl,_,rfl⟩:=hv;refine⟨g,rfl,m g rfl,(World.ownsRow.lt ⟨f.1,.inr ⟨g,c,b,by rw[hl],hb,hg,r⟩⟩ g rfl).2,fun j s=> ?_,fun j=> ?_⟩
  ·have d:l.len*8+j<xs.length:=by rw[e,List.length_append,i,k];show _<_+1*8;omega
   have:=f.cells (g:=g) rfl (l.len*8+j) _ (List.getElem?_eq_getElem d);rw[show(⟨g,0,none⟩:Addr).add (l.len*8+j)=⟨g,l.len*8+j,none⟩from by unfold Addr.add;split<;>simp_all]at this;rw[this];rfl
  ·unfold World.frozen?;rw[hg];simp
theorem OwnN.fill{w:World}{D:Nat→Prop}{g c:Nat}{l:NL}(h:OwnN w D (.slice (some ⟨g,0,none⟩) (l.len+1) c) (l.app jw))(op ln:Int)(s:ByteArray)(k n:Int)(t:ByteArray)(va:Option Addr)(vc:Nat){A:Option Addr}{d:Nat}{sub:NL}(hc:sub.len≤d)(hr:RpN w (fun b=>D b∧b<w.heap.size∧b≠g) sub A):
 OwnN ((((((((w.setCell ⟨g,l.len*8,none⟩ (.int .i64 op)).setCell ⟨g,l.len*8+1,none⟩ (.int .i64 ln)).setCell ⟨g,l.len*8+2,none⟩ (.string s)).setCell ⟨g,l.len*8+3,none⟩ (.int .i64 k)).setCell ⟨g,l.len*8+4,none⟩ (.int .i64 n)).setCell ⟨g,l.len*8+5,none⟩ (.string t)).setCell ⟨g,l.len*8+6,none⟩ (.slice va 0 vc)).setCell ⟨g,l.len*8+7,none⟩ (.slice A sub.len d)) D (.slice (some ⟨g,0,none⟩) (l.len+1) c) (l.app (nd op ln s k n t sub))∧
 w.grownBy ((((((((w.setCell ⟨g,l.len*8,none⟩ (.int .i64 op)).setCell ⟨g,l.len*8+1,none⟩ (.int .i64 ln)).setCell ⟨g,l.len*8+2,none⟩ (.string s)).setCell ⟨g,l.len*8+3,none⟩ (.int .i64 k)).setCell ⟨g,l.len*8+4,none⟩ (.int .i64 n)).setCell ⟨g,l.len*8+5,none⟩ (.string t)).setCell ⟨g,l.len*8+6,none⟩ (.slice va 0 vc)).setCell ⟨g,l.len*8+7,none⟩ (.slice A sub.len d)) (some g):=by
 have F:=h.ge;obtain⟨xs,z,C,hx⟩:=h;obtain⟨f,L,e,h1,h2⟩:=QJ l jw xs hx;have m:=xZ l f h1;obtain⟨I,J,G,H,ys,e2,_,_,_,_,i⟩:=h2;have i:ys= []:=i;subst i;have hl:(l.app jw).len=l.len+1:=by rw[NL.len_app];rfl
 rw[hl]at z;have a1:=z.stored (l.len*8) (.int .i64 op);have a2:=a1.1.stored (l.len*8+1) (.int .i64 ln);have a3:=a2.1.stored (l.len*8+2) (.string s);have a4:=a3.1.stored (l.len*8+3) (.int .i64 k);have p:=a4.1.stored (l.len*8+4) (.int .i64 n);have q:=p.1.stored (l.len*8+5) (.string t);have r:=q.1.stored (l.len*8+6) (.slice va 0 vc);have v:=r.1.stored (l.len*8+7) (.slice A sub.len d);have hg:=((((((a1.2.trans a2.2).trans a3.2).trans a4.2).trans p.2).trans q.2).trans r.2).trans v.2;refine⟨⟨_,by rw[show(l.app (nd op ln s k n t sub)).len=l.len+1 from by rw[NL.len_app];rfl];exact v.1,C,?_⟩,hg⟩;have hk: ∀b,SN w D (.slice (some ⟨g,0,none⟩) (l.len+1) c) b→_:=fun b hb=>hg.block b hb.2.1 (fun e=>hb.2.2 e.symm)
 have B:((((((((xs.set (l.len*8) (.int .i64 op)).set (l.len*8+1) (.int .i64 ln)).set (l.len*8+2) (.string s)).set (l.len*8+3) (.int .i64 k)).set (l.len*8+4) (.int .i64 n)).set (l.len*8+5) (.string t)).set (l.len*8+6) (.slice va 0 vc)).set (l.len*8+7) (.slice A sub.len d))=f++ [.int .i64 op,.int .i64 ln,.string s,.int .i64 k,.int .i64 n,.string t,.slice va 0 vc,.slice A sub.len d]:=by
  rw[e,e2, ←m];have: ∀(x:List Value)(u:Value)(y:List Value)(j:Nat),(x++y).set (x.length+j) u=x++y.set j u:=fun x u y j=>by rw[List.set_append_right _ _ (by omega)];congr 2;omega
  have h0: ∀(x:List Value)(u:Value)(y:List Value),(x++y).set x.length u=x++y.set 0 u:=fun x u y=>this x u y 0;rw[h0,this,this,this,this,this,this,this];rfl
 rw[B];refine QI l _ f _ (jP hk (fun b hb=>⟨hb.1,Nat.lt_of_lt_of_le hb.2.1 hg.size,hb.2.2⟩) l f h1) ?_;refine⟨va,vc,A,d,[],rfl,Nat.zero_le _,trivial,hc,?_,rfl⟩
 exact hr.keep (fun b hb=>hg.block b hb.2.1 (fun e=>by injection e with e;exact hb.2.2 e)) (fun b hb=>⟨hb.1,Nat.lt_of_lt_of_le hb.2.1 hg.size,fun e=>by
  simp[Value.ownBlock]at e
  exact hb.2.2 e.symm⟩)
section
variable {P : Program} {ops : Array Oper} {o : Oper} {a : Act} {K : Act → World → Prop} {Q : Exit → Act → World → Prop} {E : Prop}
theorem qR{w:World}(k:o.guard=none)(s x:Operand)(T:TypeId)
 (q:o.op= .call {callee:= .builtin .append,args:= #[s,x],argTypes:= #[T,T]}) {i:TypeInfo} {z:Value}
 (r:P.underlying T=some (.slice 31)) (hi:P.info? 31=some i) (hz:i.zero=some z) (c:i.size=8) (j:i.bytes=112) (n:z.cells.size=8)
 {D:Nat→Prop} {V:Value} {l:NL} (hs:a.eval s=V) (p:OwnN w D V l) {g:Nat} (hx:a.eval x= .slice (some ⟨g,0,none⟩) 1 1) (hb:RpN w (SN w D V) jw (some ⟨g,0,none⟩)) (hl:l.len+1≤1000000000000) (hn:D w.heap.size)
 (h: ∀d f w',OwnN w' D (.slice (some ⟨d,0,none⟩) (l.len+1) f) (l.app jw)→w.grownBy w' V.ownBlock→(some d=V.ownBlock∨d=w.heap.size)→K (a.put o.dst (.slice (some ⟨d,0,none⟩) (l.len+1) f)) w'):
 if Region.wanted o (yielded ops a.tmps)=true then Oper.wp P o a w K Q else E:=by
 refine qy (b:=jw) (m:=1) k s x T q r hi hz c j n hs p hx rfl hb (fun e=>by cases e) hl hn fun t f w' h1 h2 h3=> ?_;obtain⟨d,rfl,_⟩:=OwnN.slot (l:=l) h1;refine h d f w' h1 h2 ?_;rcases h3 with h3|h3
 ·exact .inl h3
 ·right;simpa[Value.ownBlock]using h3
end
theorem zg(w:World)(es:List (List UInt8))(cs:Array Value)(h:cs=(es.map (fun x=>Value.string ⟨x.toArray⟩)).toArray):StrG (w.alloc (.cells cs 9)) w.heap.size es:=by
 refine⟨by rw[World.size_alloc];omega,fun j x b=> ?_⟩;subst h;unfold World.alloc World.cell?;simp[b]
abbrev Zh (w:World) (g o:Nat) (v0 v1 v2 v3 v4 v5 v6 v7:Value):World:=(((((((w.setCell ⟨g,o,none⟩ v0).setCell ⟨g,o+1,none⟩ v1).setCell ⟨g,o+2,none⟩ v2).setCell ⟨g,o+3,none⟩ v3).setCell ⟨g,o+4,none⟩ v4).setCell ⟨g,o+5,none⟩ v5).setCell ⟨g,o+6,none⟩ v6).setCell ⟨g,o+7,none⟩ v7
theorem Xm{a W e d:World}{X:PCtx}{p j:PS}{c b:Nat}{V h c1 c2 c3 c4 c5 i:Value}{l:NL}(hc:Below W.heap.size W e)(m:Mvd a e X p)(hm:Mvd e d X j)(n:NdB W b h c1 c2 c3 c4 c5 i V)(q:OwnN W (DG c b) V l)(r:X.P<c)(f:X.P<b):
 W.grownBy d (some X.P)∧Mvd a d X j∧NdB d b h c1 c2 c3 c4 c5 i V∧OwnN d (DG c b) V l∧e.heap.size≤d.heap.size:=by
 have h1:W.grownBy d (some X.P):=⟨hm.grown.os.trans hc.os,hm.grown.tape.trans hc.tape,hm.grown.output.trans hc.output,Nat.le_trans hc.size hm.grown.size,fun k hk g=>(hm.grown.block k (Nat.lt_of_lt_of_le hk hc.size) g).trans (hc.block k hk)⟩
 exact⟨h1,m.trans hm,NdB.grown n h1 f,OwnN.grown q h1 (DG.not r),hm.grown.size⟩
theorem Xq{W:World}{c b z:Nat}{V:Value}{l:NL}(f:OwnN W (DG c b) V l)(hz:zN W z)(hb:c≤z)(ha:b<z)(d: ∀g,V.ownBlock=some g→g<z):RpN W (SN W (DG c b) V) jw (some ⟨z,0,none⟩):=
 qdh hz ⟨⟨hb,by omega⟩,hz.lt,fun e=>Nat.lt_irrefl _ (d z e)⟩
theorem Xp{a F y Y j wx:World}{X:PCtx}{q:PS}{f c m g9 J B:Nat}{V Z c1 c2 c3 c4 c5 c6:Value}{l sub:NL}{A8:Option Addr}{c8:Nat}(op ln:Int)(s:ByteArray)(k n:Int)(t:ByteArray)(va:Option Addr)(vc:Nat)
 (hW:F.grownBy y (some X.P)) (hm:Mvd a y X q) (hN:NdB y c Z c1 c2 c3 c4 c5 c6 V) (hV:OwnN y (DG f c) V l) (hP:X.P<f) (ha:a.heap.size≤f) (N:X.P<c) (R:a.heap.size≤c)
 (hz:Below y.heap.size y Y) (hg:Y.grownBy j V.ownBlock) (i:OwnN j (DG f c) (.slice (some ⟨g9,0,none⟩) (l.len+1) J) (l.app jw)) (hob:some g9=V.ownBlock∨g9=Y.heap.size)
 (hx:OwnN y (fun b=>B≤b) (.slice A8 sub.len c8) sub) (O: ∀g,V.ownBlock=some g→g<B) (hbB:f≤B) (haB:c<B) (hBW:B≤y.heap.size) (hk:qQ (nd op ln s k n t sub)) (hm1:1≤m) {d:Int} (hd:q.deep=d) (hsz:F.heap.size<j.heap.size)
 (hwx:wx=(Zh j g9 (l.len*8) (.int .i64 op) (.int .i64 ln) (.string s) (.int .i64 k) (.int .i64 n) (.string t) (.slice va 0 vc) (.slice A8 sub.len c8)).setCell ⟨c,7,none⟩ (.slice (some ⟨g9,0,none⟩) (l.len+1) J)∨
  wx=Zh (j.setCell ⟨c,7,none⟩ (.slice (some ⟨g9,0,none⟩) (l.len+1) J)) g9 (l.len*8) (.int .i64 op) (.int .i64 ln) (.string s) (.int .i64 k) (.int .i64 n) (.string t) (.slice va 0 vc) (.slice A8 sub.len c8)):
 zC X a F q f c Z c1 c2 c3 c4 c5 c6 l (nd op ln s k n t sub) m d wx:=by
 have hz8:=hz.size;have hz9:=hg.size;have I:DG f c g9:=(i.ge g9 rfl).1;have hg9:g9<j.heap.size:=(i.ge g9 rfl).2;obtain⟨A,cc,e,S,_,hr⟩:=hx.kids;simp only[Value.slice.injEq,true_and]at e;obtain⟨rfl,rfl⟩:=e
 have hgB: ∀b,B≤b→b<y.heap.size→b≠g9:=fun b hb hb2 e=>by
  subst e;rcases hob with h|h
  ·have:=O b h.symm;omega
  ·omega
 have W:RpN j (fun b=>DG f c b∧b<j.heap.size∧b≠g9) sub A8:=hr.keep
  (fun b hb=>(hg.block b (Nat.lt_of_lt_of_le hb.2 hz8) (fun e=>by have:=O b e.symm;have:=hb.1;omega)).trans (hz.block b hb.2))
  (fun b hb=>⟨⟨by have:=hb.1;omega,by have:=hb.1;omega⟩,by have:=hb.2;omega,hgB b hb.1 hb.2⟩)
 have hMz:Mvd a Y X q:=hm.below hz;have hOz:=hV.below hz;have M:Mvd a j X q:=hMz.app hOz (fun k hk=>Nat.lt_of_lt_of_le hP hk.1) (fun k hk=>Nat.le_trans ha hk.1) hg;have G:NdB j c Z c1 c2 c3 c4 c5 c6 V:=(hN.below' hz).app hg (fun e=>(hV.ge c e).1.2 rfl);have U:c≠g9:=fun e=>I.2 e.symm
 have T: ∀(g:Nat)(p d1 d2 d3 d4 d5 r d7:Value),g<f→g≠c→X.P<g→NdB F g p d1 d2 d3 d4 d5 r d7→NdB j g p d1 d2 d3 d4 d5 r d7:=fun g p d1 d2 d3 d4 d5 r d7 h1 h2 h3 h4=>
  ((h4.grown hW h3).below' hz).app hg (fun e=>absurd (hV.ge g e).1.1 (by omega))
 have dP: ∀k,DG f c k→X.P<k:=fun k hk=>Nat.lt_of_lt_of_le hP hk.1;have dA: ∀k,DG f c k→a.heap.size≤k:=fun k hk=>Nat.le_trans ha hk.1;have D:(nd op ln s k n t sub).len≤m:=hm1;rcases hwx with rfl|rfl
 ·obtain⟨L,z⟩:=i.fill op ln s k n t va vc S W
  have w:=M.app i dP dA z;have u:=G.apart z U;have hs2:=z.size;have x:=fun(g:Nat)(p d1 d2 d3 d4 d5 r d7:Value)(h1:g<f)(h2:g≠c)(h3:X.P<g)(h4:NdB F g p d1 d2 d3 d4 d5 r d7)=>(T g p d1 d2 d3 d4 d5 r d7 h1 h2 h3 h4).apart z (fun e=>by have:=I.1;omega)
  revert L w u hs2 x
  unfold Zh;generalize (((((((j.setCell ⟨g9,l.len*8,none⟩ (.int .i64 op)).setCell ⟨g9,l.len*8+1,none⟩ (.int .i64 ln)).setCell ⟨g9,l.len*8+2,none⟩ (.string s)).setCell ⟨g9,l.len*8+3,none⟩ (.int .i64 k)).setCell ⟨g9,l.len*8+4,none⟩ (.int .i64 n)).setCell ⟨g9,l.len*8+5,none⟩ (.string t)).setCell ⟨g9,l.len*8+6,none⟩ (.slice va 0 vc)).setCell ⟨g9,l.len*8+7,none⟩ (.slice A8 sub.len c8)=w2;intro L w u hs2 x;exact⟨_,w.node u N R (qv _ _ _ _),hd,u.set7 _,OwnN.keep L (fun k hk _=>Below.heap_setCell _ _ _ _ (by show k≠c;exact hk.2)) (by rw[ji];exact Nat.le_refl _),D,hk,by rw[ji];omega,fun g p d1 d2 d3 d4 d5 r d7 h1 h2 h3 h4=>(x g p d1 d2 d3 d4 d5 r d7 h1 h2 h3 h4).far (by show g≠c;exact h2) _⟩
 ·obtain⟨C,v⟩: ∃C,C=j.setCell ⟨c,7,none⟩ (.slice (some ⟨g9,0,none⟩) (l.len+1) J):=⟨_,rfl⟩
  have s1:C.heap.size=j.heap.size:=by rw[v,ji]
  have H: ∀k,k≠c→C.heap[k]?=j.heap[k]?:=fun k hk=>by rw[v];exact Below.heap_setCell _ _ _ _ (by show k≠c;exact hk)
  have o1:=OwnN.keep i (w':=C) (fun k hk _=>H k hk.2) (by omega);have r1:=W.keep (w':=C) (S':=fun b=>DG f c b∧b<C.heap.size∧b≠g9) (fun k hk=>H k hk.1.2) (fun b hb=>⟨hb.1,by have:=hb.2.1;omega,hb.2.2⟩);have hM1:Mvd a C X q:=by rw[v];exact M.node G N R (qv j c 7 _)
  have hN1:NdB C c Z c1 c2 c3 c4 c5 c6 (.slice (some ⟨g9,0,none⟩) (l.len+1) J):=by rw[v];exact G.set7 _
  have hf1:=fun(g:Nat)(p d1 d2 d3 d4 d5 r d7:Value)(h1:g<f)(h2:g≠c)(h3:X.P<g)(h4:NdB F g p d1 d2 d3 d4 d5 r d7)=>(H g h2).trans (T g p d1 d2 d3 d4 d5 r d7 h1 h2 h3 h4);rw[←v];clear v;obtain⟨L,z⟩:=o1.fill op ln s k n t va vc S r1;have w:=hM1.app o1 dP dA z;have u:=hN1.apart z U;have hs2:=z.size;have x:=fun(g:Nat)(p d1 d2 d3 d4 d5 r d7:Value)(h1:g<f)(h2:g≠c)(h3:X.P<g)(h4:NdB F g p d1 d2 d3 d4 d5 r d7)=>NdB.apart (hf1 g p d1 d2 d3 d4 d5 r d7 h1 h2 h3 h4) z (fun e=>by have:=I.1;omega);exact⟨_,w,hd,u,L,D,hk,by unfold Zh;omega,x⟩
structure IpZ (X:PCtx) (a W0:World) (q:PS) (base addr:Nat) (c0 c1 c2 c3 c4 c5 c6 V:Value) (l:NL) (d:Int) (w8 Wz:World) (z:Nat) (op ln:Int) (s:ByteArray) (k n:Int) (t:ByteArray) (va:Option Addr) (vc:Nat) (A8:Option Addr) (c8:Nat) (sub:NL):Prop where
 c7:w8.cell? ⟨addr,7,none⟩=some V
 own:OwnN Wz (DG base addr) V l
 rp:RpN Wz (SN Wz (DG base addr) V) jw (some ⟨z,0,none⟩)
 dg:DG base addr Wz.heap.size
 fin: ∀(g9 c9:Nat)(w9:World),OwnN w9 (DG base addr) (.slice (some ⟨g9,0,none⟩) (l.len+1) c9) (l.app jw)→Wz.grownBy w9 V.ownBlock→(some g9=V.ownBlock∨g9=Wz.heap.size)→
  ∃u0 u1 u2 u3 u4 u5 u6 u7:Value,w9.cell? ⟨g9,l.len*8,none⟩=some u0∧w9.cell? ⟨g9,l.len*8+1,none⟩=some u1∧w9.cell? ⟨g9,l.len*8+2,none⟩=some u2∧w9.cell? ⟨g9,l.len*8+3,none⟩=some u3∧w9.cell? ⟨g9,l.len*8+4,none⟩=some u4∧w9.cell? ⟨g9,l.len*8+5,none⟩=some u5∧w9.cell? ⟨g9,l.len*8+6,none⟩=some u6∧w9.cell? ⟨g9,l.len*8+7,none⟩=some u7∧
   (∀j,w9.frozen? ⟨g9,j,none⟩=false)∧w9.cell? ⟨addr,7,none⟩=some V∧w9.frozen? ⟨addr,7,none⟩=false∧g9≠addr∧addr≠g9∧
   ∀wx,(wx=(Zh w9 g9 (l.len*8) (.int .i64 op) (.int .i64 ln) (.string s) (.int .i64 k) (.int .i64 n) (.string t) (.slice va 0 vc) (.slice A8 sub.len c8)).setCell ⟨addr,7,none⟩ (.slice (some ⟨g9,0,none⟩) (l.len+1) c9)∨
    wx=Zh (w9.setCell ⟨addr,7,none⟩ (.slice (some ⟨g9,0,none⟩) (l.len+1) c9)) g9 (l.len*8) (.int .i64 op) (.int .i64 ln) (.string s) (.int .i64 k) (.int .i64 n) (.string t) (.slice va 0 vc) (.slice A8 sub.len c8))→
    zC X a W0 q base addr c0 c1 c2 c3 c4 c5 c6 l (nd op ln s k n t sub) 1 d wx
def zR(X:PCtx)(a i:World)(q:PS)(c b:Nat)(j c1 c2 c3 c4 c5 m V:Value)(l x:NL)(d:Int)(p:Option Nat)(e:Ending)(f:World):Prop:=
 ∃(op ln:Int)(s:ByteArray)(k n:Int)(t:ByteArray)(va:Option Addr)(vc:Nat)(g:Option Addr)(h:Nat)(sub:NL),e= .returned (.agg #[.int .i64 op,.int .i64 ln,.string s,.int .i64 k,.int .i64 n,.string t,.slice va 0 vc,.slice g sub.len h])∧x=nd op ln s k n t sub∧
  match p with
  |none=>IpZ X a i q c b j c1 c2 c3 c4 c5 m V l d f (f.alloc (.cells #[.int .i64 0,.int .i64 0,.string ⟨#[]⟩,.int .i64 0,.int .i64 0,.string ⟨#[]⟩,.slice none 0 0,.slice none 0 0] 31)) f.heap.size op ln s k n t va vc g h sub
  |some z=>IpZ X a i q c b j c1 c2 c3 c4 c5 m V l d f f z op ln s k n t va vc g h sub
theorem qD{fn:Nat}{args:Array Value}{a W u:World}{X:PCtx}{p q:PS}{f i c:Nat}{V J c1 c2 c3 c4 c5 L:Value}{l x:NL}{d:Int}(zo:Option Nat)(y:Calls Tryz.prog fn args u (PNd X (fun k=>u.heap.size≤k) u p f (x,q)))
 (hc:Below W.heap.size W u) (hM:Mvd a u X p) (hN:NdB W c J c1 c2 c3 c4 c5 L V) (hO:OwnN W (DG i c) V l) (hP:X.P<i) (C:X.P<c) (ha:a.heap.size≤i) (N:a.heap.size≤c) (O:i≤W.heap.size) (hd:p.deep=d)
 (Z: ∀z,zo=some z→W.heap.size≤z∧zN u z):Calls Tryz.prog fn args u (zR X a W q i c J c1 c2 c3 c4 c5 L V l x d zo):=by
 refine y.mono ?_;rintro e G ⟨op,ln,s,k,n,t,va,vc,V8,sub,hn,rfl,hm,ho,hk,hl,R⟩;obtain⟨A8,c8,rfl⟩:=ho.form;have D:=hO.ge;have M:=hN.lt;obtain⟨HG,H,w,r,hs8⟩:=Xm hc hM hm hN hO hP C;have hcs:=hc.size;have I:=ho.wide (D':=fun b=>W.heap.size≤b) (fun k hk _=>by have h:u.heap.size≤k:=hk;omega)
 have hz: ∀(A:World)(z:Nat),Below G.heap.size G A→zN A z→W.heap.size≤z→W.heap.size<A.heap.size→IpZ X a W q i c J c1 c2 c3 c4 c5 L V l d G A z op ln s k n t va vc A8 c8 sub:=fun A z hb Y hzW hsz=>by
  have hbs:=hb.size;refine⟨w.c7,r.below hb,Xq (r.below hb) Y (by omega) (by omega) (fun g hg=>by have:=(D g hg).2;omega),⟨by omega,by omega⟩,fun g9 c9 w9 v hg S=> ?_⟩;obtain⟨_,m,F,_,j,T⟩:=OwnN.slot v;injection m with m
  injection m with m
  subst m;obtain⟨u0,k0⟩:=Option.isSome_iff_exists.1 (j 0 (by decide));obtain⟨u1,k1⟩:=Option.isSome_iff_exists.1 (j 1 (by decide));obtain⟨u2,k2⟩:=Option.isSome_iff_exists.1 (j 2 (by decide));obtain⟨u3,k3⟩:=Option.isSome_iff_exists.1 (j 3 (by decide));obtain⟨u4,k4⟩:=Option.isSome_iff_exists.1 (j 4 (by decide));obtain⟨u5,k5⟩:=Option.isSome_iff_exists.1 (j 5 (by decide));obtain⟨u6,k6⟩:=Option.isSome_iff_exists.1 (j 6 (by decide));obtain⟨u7,k7⟩:=Option.isSome_iff_exists.1 (j 7 (by decide));have B:=(w.below' hb).app hg (fun e=>(r.ge _ e).1.2 rfl);have hz9:=hg.size
  exact⟨u0,u1,u2,u3,u4,u5,u6,u7,k0,k1,k2,k3,k4,k5,k6,k7,T,B.c7,B.fr 7,F.2,fun e=>F.2 e.symm,fun wx U=>
   Xp op ln s k n t va vc HG H w r hP ha C N hb hg v S I (fun g hg=>(D g hg).2) O M (by omega) (by have h:(x:NL)=_:=hn;rw[←h];exact hk) (Nat.le_refl 1) (R.trans hd) (by omega) U⟩
 refine⟨op,ln,s,k,n,t,va,vc,A8,c8,sub,rfl,hn,?_⟩
 cases zo with
 |none=>exact hz _ _ ((Below.refl _ _).alloc (Nat.le_refl _) _) (zN.new G) (by omega) (by rw[World.size_alloc];omega)
 |some z=>
  obtain⟨h1,h2⟩:=Z z rfl;have h3:=h2.lt;exact hz G z (Below.refl _ _) (NdB.grown h2 hm.grown (by omega)) h1 (by omega)
end
theorem StrG.mvd{w w':World}{G:Nat}{es:List (List UInt8)}{X:PCtx}{q:PS}(h:StrG w G es)(hm:Mvd w w' X q)(b:X.P<G):StrG w' G es:=
 h.keep (hm.grown.block G h.1 (fun e=>by injection e with e;omega)) hm.grown.size
theorem qba(X:PCtx)(F:Nat)(hF:F≤1000000000)(Y:EC X F)(ih:SC X F):zP X 69 #[] .head (F+1):=by
 intro w p r m h0 h1 hr;rw[qa]at hr;have hPl:=m.lt;have ah:=m.len;obtain⟨i0,hi0,hz0,hz1,hz2⟩:=info_parts qz;have EC:=hid Y;have IH:=hid ih;clear Y ih;have D:=hid (show qa X.l F (.within [41]) (qf X.l p [40])=some r from hr);clear hr;obtain⟨v,c⟩: ∃v,v=(w).alloc (.cells #[.int .i64 0,.int .i64 0,.string ⟨#[]⟩,.int .i64 0,.int .i64 0,.string ⟨#[]⟩,.slice none 0 0,.slice none 0 0] 31):=⟨_,rfl⟩
 have t:=hid (show Mvd w v X p by rw[c];exact((Mvd.of m).alloc _));have hsa:v.heap.size=w.heap.size+1:=by rw[c];simp
 have I:=hid (show zN v w.heap.size by rw[c];exact(zN.new w));have H:=hid c;clear c;go_enter Tryz.func69,Tryz.ntmps69
 go_wp2_with fail
 rw[←H.out];refine(qT t.out.st (s:=⟨#[40]⟩) (L:= [40]) rfl).mono ?_;rintro e1 w1 ⟨rfl,e⟩;have q:=hid (t.out.trans e);have hs1:=e.grown.size;have n:=hid (NdB.grown I.out e.grown (show X.P<w.heap.size by omega));clear e;obtain⟨n1,z⟩:=r;go_wp2_with fail
 refine(EC.out.within F (Nat.le_refl _) ⟨#[41]⟩ w1 _ _ q.out.st (by first|omega|(simp<;>omega)) (by first|omega|(simp<;>omega)) D.out).mono ?_;rintro e2 w2 ⟨op2,ln2,A,x,y,u2,J,M,V2,sub2,i,rfl,f,j,d,hl2,u⟩;obtain⟨A2,cc2,rfl⟩:=j.form;have i:n1=nd op2 ln2 A x y u2 sub2:=i;subst i;have d:=hid d;have u:z.deep=p.deep+0:=by have h:z.deep=(qf X.l p [40]).deep:=u;(try simp at h);omega
 have B:=hid (q.out.trans f);have hs2:=f.grown.size;have b:=hid (NdB.grown n.out f.grown (show X.P<w.heap.size by omega));have C:=hid (j.wide (D':=DG w1.heap.size 0) (fun k hk d=>⟨hk,by omega⟩));clear f j;unfold qN;have N:=b.out.c0;have Z:=b.out.fr 0;have O:=b.out.c1;have aa:=b.out.fr 1;have R:=b.out.c2;have ab:=b.out.fr 2;have S:=b.out.c3;have ac:=b.out.fr 3;have T:=b.out.c4;have ad:=b.out.fr 4;have U:=b.out.c5;have ae:=b.out.fr 5;have V:=b.out.c6;have af:=b.out.fr 6;have W:=b.out.c7;have ag:=b.out.fr 7;go_wp2_with fail
 have G:=hid (rfl:(nd op2 ln2 A x y u2 sub2,z)=(nd op2 ln2 A x y u2 sub2,z));refine ql Tryz.results69 w.heap.size rfl rfl (b.out.set8 _ _ _ _ _ _ _ _) ?_;exact PNd.mk op2 ln2 A x y u2 J M _ sub2 _ G.out (B.out.node b.out (by omega) (by omega) (qe _ _ _ _ _ _ _ _ _ _)) (qC (w0:=w.heap.size) (g:=w.heap.size) C.out (by omega) (qe _ _ _ _ _ _ _ _ _ _) (by omega)) d.out (by omega) (by first|omega|(simp<;>omega))
theorem qag(X:PCtx)(F:Nat)(hF:F≤1000000000)(ec:EC X F)(ih:SC X F):Jn X (F+1):=by
 intro es G w p r hst h0 h1 hes hSG hPG hr;rw[qa]at hr;have hPl:=hst.lt;have hlen:=hst.len;obtain⟨i0,hi0,hz0,hz1,hz2⟩:=info_parts qz;have EC:=hid ec;have IH:=hid ih;clear ec ih;have HSG:=hid hSG;have hGw:=hSG.1;clear hSG
 cases hd:(qh p).err.isNone with
 |false=>
  have HRR:=hid (show r=(ndL 52 (qd X.l p) .nil,qu (qh p))by rw[hd]at hr;exact(Option.some.inj hr).symm);have HD:=hid hd;clear hr hd;obtain⟨wa,O⟩: ∃wa,wa=(w).alloc (.cells #[.int .i64 0,.int .i64 0,.string ⟨#[]⟩,.int .i64 0,.int .i64 0,.string ⟨#[]⟩,.slice none 0 0,.slice none 0 0] 31):=⟨_,rfl⟩
  have HMa:=hid (show Mvd w wa X p by rw[O];exact((Mvd.of hst).alloc _));have hsa:wa.heap.size=w.heap.size+1:=by rw[O];simp
  have HZr:=hid (show zN wa w.heap.size by rw[O];exact(zN.new w));have HWA:=hid O;clear O;go_enter Tryz.func70,Tryz.ntmps70
  go_wp2_with fail
  rw[←HWA.out];refine(qO HMa.out.st).mono ?_;rintro e1 v ⟨rfl,Z⟩;have HM1:=hid (HMa.out.trans Z);have hs1:=Z.grown.size;have ah:=hid (NdB.grown HZr.out Z.grown (show X.P<w.heap.size by omega));clear Z;obtain⟨w2,N⟩: ∃w2,w2=(v.alloc (.cells #[.int .i64 52,.int .i64 (qd X.l p),.string ⟨#[]⟩,.int .i64 0,.int .i64 0,.string ⟨#[]⟩,.slice none 0 0,.slice none 0 0] 31)):=⟨_,rfl⟩
  have ad:Below v.heap.size v w2:=by rw[N];exact((Below.refl _ _).alloc (Nat.le_refl _) _)
  have af:=hid (show NdB w2 v.heap.size (.int .i64 52) (.int .i64 (qd X.l p)) (.string ⟨#[]⟩) (.int .i64 0) (.int .i64 0) (.string ⟨#[]⟩) (.slice none 0 0) (.slice none 0 0)by rw[N];exact NdB.new _ _ _ _ _ _ _ _ _);have hs2:w2.heap.size=v.heap.size+1:=by rw[N];simp
  have HM2:=hid (HM1.out.below ad);have ai:=hid (ah.out.below' ad);have HW2:=hid N;clear N ad;go_wp2_with fail
  rw[←HW2.out];refine(xr HM2.out.st (by first|omega|(simp<;>omega)) (by first|omega|(simp<;>omega)) HD.out).mono ?_;rintro e3 w3 ⟨rfl,M⟩;have HM3:=hid (HM2.out.trans M);have hs3:=M.grown.size;have aj:=hid (NdB.grown ai.out M.grown (show X.P<w.heap.size by omega));have ag:=hid (NdB.grown af.out M.grown (show X.P<v.heap.size by omega));clear M;go_wp2_with fail
  refine(je X _ _ HM3.out.st (by first|omega|(simp<;>omega)) (by first|omega|(simp<;>omega))).mono ?_;rintro e4 w4 ⟨rfl,hm4⟩;have HM4:=hid (HM3.out.trans hm4);have hs4:=hm4.grown.size;have m:=hid (NdB.grown aj.out hm4.grown (show X.P<w.heap.size by omega));have D:=hid (NdB.grown ag.out hm4.grown (show X.P<v.heap.size by omega));clear hm4;have c1_0:=D.out.c0;have c1_1:=D.out.c1;have c1_2:=D.out.c2;have c1_3:=D.out.c3;have c1_4:=D.out.c4;have c1_5:=D.out.c5;have c1_6:=D.out.c6;have c1_7:=D.out.c7;have c2_0:=m.out.c0;have f2_0:=m.out.fr 0;have c2_1:=m.out.c1;have f2_1:=m.out.fr 1;have c2_2:=m.out.c2;have f2_2:=m.out.fr 2;have c2_3:=m.out.c3;have f2_3:=m.out.fr 3;have c2_4:=m.out.c4;have f2_4:=m.out.fr 4;have c2_5:=m.out.c5;have f2_5:=m.out.fr 5;have c2_6:=m.out.c6;have f2_6:=m.out.fr 6;have c2_7:=m.out.c7;have f2_7:=m.out.fr 7;go_wp2_with fail
  refine ql Tryz.results70 w.heap.size rfl rfl (m.out.set8 _ _ _ _ _ _ _ _) ?_;exact PNd.mk 52 (qd X.l p) ⟨#[]⟩ 0 0 ⟨#[]⟩ none 0 (.slice none 0 0) .nil _ HRR.out (HM4.out.node m.out (by omega) (by omega) (qe _ _ _ _ _ _ _ _ _ _)) (OwnN.nil _ _) (zr (by decide) (by decide)) (Nat.zero_le _) (by first|omega|(simp<;>omega))
 |true=>
  rw[hd]at hr;have hle:=js hd;have HD:=hid hd;clear hd;replace hr:((qa X.l F (.blockL es .nil) (qh p)).bind fun(x,p1)=>some (ndL 52 (qd X.l p) x,qu p1))=some r:=hr
  cases hq1:qa X.l F (.blockL es .nil) (qh p)with
  |none=>rw[hq1]at hr;cases hr
  |some q1=>
  obtain⟨x1,p1⟩:=q1;rw[hq1]at hr;replace hr:some (ndL 52 (qd X.l p) x1,qu p1)=some r:=hr;have HQ1:=hid hq1;clear hq1;have HRR:=hid (show r=(ndL 52 (qd X.l p) x1,qu p1)from(Option.some.inj hr).symm);clear hr;obtain⟨wa,O⟩: ∃wa,wa=(w).alloc (.cells #[.int .i64 0,.int .i64 0,.string ⟨#[]⟩,.int .i64 0,.int .i64 0,.string ⟨#[]⟩,.slice none 0 0,.slice none 0 0] 31):=⟨_,rfl⟩
  have HMa:=hid (show Mvd w wa X p by rw[O];exact((Mvd.of hst).alloc _));have hsa:wa.heap.size=w.heap.size+1:=by rw[O];simp
  have HZr:=hid (show zN wa w.heap.size by rw[O];exact(zN.new w));have HWA:=hid O;clear O;go_enter Tryz.func70,Tryz.ntmps70
  go_wp2_with fail
  rw[←HWA.out];refine(qO HMa.out.st).mono ?_;rintro e1 v ⟨rfl,Z⟩;have HM1:=hid (HMa.out.trans Z);have hs1:=Z.grown.size;have ah:=hid (NdB.grown HZr.out Z.grown (show X.P<w.heap.size by omega));clear Z;obtain⟨w2,N⟩: ∃w2,w2=(v.alloc (.cells #[.int .i64 52,.int .i64 (qd X.l p),.string ⟨#[]⟩,.int .i64 0,.int .i64 0,.string ⟨#[]⟩,.slice none 0 0,.slice none 0 0] 31)):=⟨_,rfl⟩
  have ad:Below v.heap.size v w2:=by rw[N];exact((Below.refl _ _).alloc (Nat.le_refl _) _)
  have af:=hid (show NdB w2 v.heap.size (.int .i64 52) (.int .i64 (qd X.l p)) (.string ⟨#[]⟩) (.int .i64 0) (.int .i64 0) (.string ⟨#[]⟩) (.slice none 0 0) (.slice none 0 0)by rw[N];exact NdB.new _ _ _ _ _ _ _ _ _);have hs2:w2.heap.size=v.heap.size+1:=by rw[N];simp
  have HM2:=hid (HM1.out.below ad);have ai:=hid (ah.out.below' ad);have HW2:=hid N;clear N ad;go_wp2_with fail
  rw[←HW2.out];refine(jJ HM2.out.st (by first|omega|(simp<;>omega)) (by first|omega|(simp<;>omega)) HD.out).mono ?_;rintro e3 w3 ⟨rfl,M⟩;have HM3:=hid (HM2.out.trans M);have hs3:=M.grown.size;have aj:=hid (NdB.grown ai.out M.grown (show X.P<w.heap.size by omega));have ag:=hid (NdB.grown af.out M.grown (show X.P<v.heap.size by omega));clear M;have HO0:=hid (OwnN.nil w3 (DG (v.heap.size+1) v.heap.size));go_wp2_with fail
  go_loopg [] F (fun kk wr=> ∃(V:Value)(q:PS)(acc:NL),acc.len+kk≤F∧q.deep=p.deep+1∧w3.heap.size≤wr.heap.size∧Hid (Mvd w wr X q)∧Hid (zN wr w.heap.size)∧Hid (NdB wr v.heap.size (.int .i64 52) (.int .i64 (qd X.l p)) (.string ⟨#[]⟩) (.int .i64 0) (.int .i64 0) (.string ⟨#[]⟩) (.slice none 0 0) V)∧Hid (OwnN wr (DG (v.heap.size+1) v.heap.size) V acc)∧Hid (qQ acc)∧Hid (qa X.l kk (.blockL es acc) q=some (x1,p1)))
  case atStart=>exact⟨_,(qh p),.nil,by show 0+F≤_;omega,downS_deep p,Nat.le_refl _,HM3,aj,ag,HO0,trivial,HQ1⟩
  case round=>
   obtain⟨V,q,acc,hal,hqd,hs0,HM,HR,HN,HO,HK,HQ⟩:=hrel;obtain⟨AV,CV,hVf⟩:=HO.out.form;subst hVf
   cases gk with
   |zero=>have h:=HQ.out;rw[qa]at h;cases h
   |succ k=>
   have hr:=HQ.out;rw[qa]at hr;obtain⟨ev,hP,hE⟩:=HM.out.st.at_;have c3:=hP.c3;clear HQ;have J: ∀(y:NL×PS),y=(x1,p1)→y.1=x1∧y.2=p1:=fun y e=>by rw[e];exact⟨rfl,rfl⟩
   cases he:q.err with
   |some x=>
    rw[he]at hE;obtain⟨ty,ve,rfl⟩:=jb hE;replace hr:some (acc,q)=some (x1,p1):=by rw[←hr];simp only[he];rfl
    obtain⟨R,S⟩:=J _ (Option.some.inj hr);replace R:acc=x1:=R;replace S:q=p1:=S;subst R;subst S;clear hP hE he hr J;go_wp2_with fail
    refine(je X _ _ HM.out.st (by first|omega|(simp<;>omega)) (by first|omega|(simp<;>omega))).mono ?_;rintro e21 T ⟨rfl,f⟩;have u:=hid (HM.out.trans f);have hs21:=f.grown.size;have c:=hid (NdB.grown HR.out f.grown (show X.P<w.heap.size by omega));have j:=hid (NdB.grown HN.out f.grown (show X.P<v.heap.size by omega));have z:=hid (OwnN.grown HO.out f.grown (DG.not (by omega)));clear f;have c1_0:=j.out.c0;have c1_1:=j.out.c1;have c1_2:=j.out.c2;have c1_3:=j.out.c3;have c1_4:=j.out.c4;have c1_5:=j.out.c5;have c1_6:=j.out.c6;have c1_7:=j.out.c7;have c2_0:=c.out.c0;have f2_0:=c.out.fr 0;have c2_1:=c.out.c1;have f2_1:=c.out.fr 1;have c2_2:=c.out.c2;have f2_2:=c.out.fr 2;have c2_3:=c.out.c3;have f2_3:=c.out.fr 3;have c2_4:=c.out.c4;have f2_4:=c.out.fr 4;have c2_5:=c.out.c5;have f2_5:=c.out.fr 5;have c2_6:=c.out.c6;have f2_6:=c.out.fr 6;have c2_7:=c.out.c7;have f2_7:=c.out.fr 7;go_wp2_with fail
    refine ql Tryz.results70 w.heap.size rfl rfl (c.out.set8 _ _ _ _ _ _ _ _) ?_;exact PNd.mk 52 (qd X.l p) ⟨#[]⟩ 0 0 ⟨#[]⟩ none 0 _ acc _ HRR.out (u.out.node c.out (by omega) (by omega) (qe _ _ _ _ _ _ _ _ _ _)) (qC (w0:=w.heap.size) (g:=w.heap.size) z.out (by omega) (qe _ _ _ _ _ _ _ _ _ _) (by omega)) (qX HK.out (fun h=>by rcases h with h|h<;>cases h)) (by omega) (by first|omega|(simp<;>omega))
   |none=>
    rw[he]at hE;obtain rfl:ev= .nilIface:=hE;replace hr:(if(es.any fun e=>qj X.l q e)then some (acc,q)else if X.l.length≤q.pos then some (acc,zd X.l q)else(qa X.l k .stmt q).bind fun(x,p)=>qa X.l k (.blockL es (acc.app x)) p)=some (x1,p1):=by rw[←hr];simp only[he];rfl
    clear hP he;have CQ:=hid (qft X q G es.length es wr HM.out.st (HSG.out.mvd HM.out hPG) (by omega));obtain⟨b,hb⟩: ∃b,b=es.any (fun e=>qj X.l q e):=⟨_,rfl⟩
    rw[←hb]at hr;replace CQ:=hid (show Calls Tryz.prog 110 #[.slice (some ⟨G,0,none⟩) es.length es.length,.func (.func 57) #[.pointer (some ⟨X.P,0,none⟩)] #[]] wr (fun e w'=>e= .returned (.bool b)∧Below wr.heap.size wr w')from by rw[hb];exact CQ.out);clear hb
    cases b with
    |true=>
     replace hr:some (acc,q)=some (x1,p1):=hr;obtain⟨R,S⟩:=J _ (Option.some.inj hr);replace R:acc=x1:=R;replace S:q=p1:=S;subst R;subst S;clear hr J;go_wp2_with fail
     refine CQ.out.mono ?_;rintro e21 T ⟨rfl,H⟩;have f:=(Mvd.of HM.out.st).below H;have u:=hid (HM.out.trans f);have hs21:=f.grown.size;have c:=hid (NdB.grown HR.out f.grown (show X.P<w.heap.size by omega));have j:=hid (NdB.grown HN.out f.grown (show X.P<v.heap.size by omega));have z:=hid (OwnN.grown HO.out f.grown (DG.not (by omega)));clear f H;go_wp2_with fail
     refine(je X _ _ u.out.st (by first|omega|(simp<;>omega)) (by first|omega|(simp<;>omega))).mono ?_;rintro e22 w22 ⟨rfl,U⟩;have I:=hid (u.out.trans U);have hs22:=U.grown.size;have d:=hid (NdB.grown c.out U.grown (show X.P<w.heap.size by omega));have n:=hid (NdB.grown j.out U.grown (show X.P<v.heap.size by omega));have C:=hid (OwnN.grown z.out U.grown (DG.not (by omega)));clear U;have c1_0:=n.out.c0;have c1_1:=n.out.c1;have c1_2:=n.out.c2;have c1_3:=n.out.c3;have c1_4:=n.out.c4;have c1_5:=n.out.c5;have c1_6:=n.out.c6;have c1_7:=n.out.c7;have c2_0:=d.out.c0;have f2_0:=d.out.fr 0;have c2_1:=d.out.c1;have f2_1:=d.out.fr 1;have c2_2:=d.out.c2;have f2_2:=d.out.fr 2;have c2_3:=d.out.c3;have f2_3:=d.out.fr 3;have c2_4:=d.out.c4;have f2_4:=d.out.fr 4;have c2_5:=d.out.c5;have f2_5:=d.out.fr 5;have c2_6:=d.out.c6;have f2_6:=d.out.fr 6;have c2_7:=d.out.c7;have f2_7:=d.out.fr 7;go_wp2_with fail
     refine ql Tryz.results70 w.heap.size rfl rfl (d.out.set8 _ _ _ _ _ _ _ _) ?_;exact PNd.mk 52 (qd X.l p) ⟨#[]⟩ 0 0 ⟨#[]⟩ none 0 _ acc _ HRR.out (I.out.node d.out (by omega) (by omega) (qe _ _ _ _ _ _ _ _ _ _)) (qC (w0:=w.heap.size) (g:=w.heap.size) C.out (by omega) (qe _ _ _ _ _ _ _ _ _ _) (by omega)) (qX HK.out (fun h=>by rcases h with h|h<;>cases h)) (by omega) (by first|omega|(simp<;>omega))
    |false=>
     replace hr:(if X.l.length≤q.pos then some (acc,zd X.l q)else(qa X.l k .stmt q).bind fun(x,p)=>qa X.l k (.blockL es (acc.app x)) p)=some (x1,p1):=hr;by_cases hlt:X.l.length≤q.pos
     ·rw[if_pos hlt]at hr
      obtain⟨R,S⟩:=J _ (Option.some.inj hr);replace R:acc=x1:=R;replace S:zd X.l q=p1:=S;subst R;subst S;clear hr J;have hle2:(X.l.length:Int)≤(q.pos:Int):=by omega
      go_wp2_with fail
      refine CQ.out.mono ?_;rintro e21 T ⟨rfl,H⟩;have f:=(Mvd.of HM.out.st).below H;have u:=hid (HM.out.trans f);have hs21:=f.grown.size;have c:=hid (NdB.grown HR.out f.grown (show X.P<w.heap.size by omega));have j:=hid (NdB.grown HN.out f.grown (show X.P<v.heap.size by omega));have z:=hid (OwnN.grown HO.out f.grown (DG.not (by omega)));clear f H;obtain⟨ev21,L,hE21⟩:=u.out.st.at_;have z0:=L.c0;have z1:=L.c1;clear L hE21;go_upto_region 4 with fail
      go_region
      all_goals clear z0 z1
      all_goals
       obtain⟨w22,B⟩: ∃W,W=T.drew:=⟨_,rfl⟩
       have t:Below T.heap.size T w22:=by rw[B];exact(Below.refl _ _).drew
       have hs22:w22.heap.size=T.heap.size:=by rw[B];rfl
       rw[←B];have I:=hid (u.out.below t);have d:=hid (c.out.below' t);have n:=hid (j.out.below' t);have C:=hid (z.out.below t);clear B t;go_wp2_with fail
       refine(kI X _ _ I.out.st).mono ?_;rintro e23 w23 ⟨rfl,A⟩;have ae:=hid (I.out.trans A);have hs23:=A.grown.size;have ab:=hid (NdB.grown d.out A.grown (show X.P<w.heap.size by omega));have aa:=hid (NdB.grown n.out A.grown (show X.P<v.heap.size by omega));have ac:=hid (OwnN.grown C.out A.grown (DG.not (by omega)));clear A;go_wp2_with fail
       refine(je X _ _ ae.out.st (by first|omega|(simp<;>omega)) (by first|omega|(simp<;>omega))).mono ?_;rintro e24 w24 ⟨rfl,Y⟩;have HM24:=hid (ae.out.trans Y);have hs24:=Y.grown.size;have i:=hid (NdB.grown ab.out Y.grown (show X.P<w.heap.size by omega));have s:=hid (NdB.grown aa.out Y.grown (show X.P<v.heap.size by omega));have HOo24:=hid (OwnN.grown ac.out Y.grown (DG.not (by omega)));clear Y;have c1_0:=s.out.c0;have c1_1:=s.out.c1;have c1_2:=s.out.c2;have c1_3:=s.out.c3;have c1_4:=s.out.c4;have c1_5:=s.out.c5;have c1_6:=s.out.c6;have c1_7:=s.out.c7;have c2_0:=i.out.c0;have f2_0:=i.out.fr 0;have c2_1:=i.out.c1;have f2_1:=i.out.fr 1;have c2_2:=i.out.c2;have f2_2:=i.out.fr 2;have c2_3:=i.out.c3;have f2_3:=i.out.fr 3;have c2_4:=i.out.c4;have f2_4:=i.out.fr 4;have c2_5:=i.out.c5;have f2_5:=i.out.fr 5;have c2_6:=i.out.c6;have f2_6:=i.out.fr 6;have c2_7:=i.out.c7;have f2_7:=i.out.fr 7;go_wp2_with fail
       refine ql Tryz.results70 w.heap.size rfl rfl (i.out.set8 _ _ _ _ _ _ _ _) ?_;exact PNd.mk 52 (qd X.l p) ⟨#[]⟩ 0 0 ⟨#[]⟩ none 0 _ acc _ HRR.out (HM24.out.node i.out (by omega) (by omega) (qe _ _ _ _ _ _ _ _ _ _)) (qC (w0:=w.heap.size) (g:=w.heap.size) HOo24.out (by omega) (qe _ _ _ _ _ _ _ _ _ _) (by omega)) (qX HK.out (fun h=>by rcases h with h|h<;>cases h)) (by omega) (by first|omega|(simp<;>omega))
     ·rw[if_neg hlt]at hr
      have hle2: ¬(X.l.length:Int)≤(q.pos:Int):=by omega
      cases hq5:qa X.l k .stmt q with
      |none=>rw[hq5]at hr;cases hr
      |some q5=>
      obtain⟨n5,p5⟩:=q5;rw[hq5]at hr;replace hr:qa X.l k (.blockL es (acc.app n5)) p5=some (x1,p1):=hr;have HQ5:=hid hq5;clear hq5;have HQ2:=hid hr;clear hr J;go_wp2_with fail
      refine CQ.out.mono ?_;rintro e21 T ⟨rfl,H⟩;have f:=(Mvd.of HM.out.st).below H;have u:=hid (HM.out.trans f);have hs21:=f.grown.size;have c:=hid (NdB.grown HR.out f.grown (show X.P<w.heap.size by omega));have j:=hid (NdB.grown HN.out f.grown (show X.P<v.heap.size by omega));have z:=hid (OwnN.grown HO.out f.grown (DG.not (by omega)));clear f H;obtain⟨ev21,L,hE21⟩:=u.out.st.at_;have z0:=L.c0;have z1:=L.c1;clear L hE21;go_upto_region 4 with fail
      go_region
      all_goals clear z0 z1
      all_goals
       obtain⟨w22,B⟩: ∃W,W=T.drew:=⟨_,rfl⟩
       have t:Below T.heap.size T w22:=by rw[B];exact(Below.refl _ _).drew
       have hs22:w22.heap.size=T.heap.size:=by rw[B];rfl
       rw[←B];have I:=hid (u.out.below t);have d:=hid (c.out.below' t);have n:=hid (j.out.below' t);have C:=hid (z.out.below t);clear B t;go_wp2_with fail
       go_upto_region 6 with fail
       have c7:=n.out.c7;have vlt:=hid (fun g (hg:(.slice AV acc.len CV:Value).ownBlock=some g)=>(C.out.ge g hg).2);have EXC:=hid (fun W (hW:PSt W X q)=>IH.out.stmt k (by omega) W _ _ hW (by first|omega|(simp<;>omega)) (by first|omega|(simp<;>omega)) HQ5.out);have HSD:=hid (show PSt w22.drew X q from I.out.st.below (Below.drew (Below.refl _ _)));have HMD:=hid (show Mvd w w22.drew X q from I.out.drew)
       go_region_law
        (first
         |(refine qy (by rfl) (.tmp 36) (.tmp 39) 29 (by rfl) Tryz.underlying29 hi0 hz0 hz1 hz2 (by rfl) (by rfl) APP.out.1 (by rfl) (by rfl) APP.out.2 (fun e=>by cases e) (by first|(simp only[qg];omega)|(simp only[NL.len_app,qg];omega)|(simp only[qg,NL.len];omega)|(simp only[NL.len_app,qg,NL.len];omega)) (by refine⟨?_,?_⟩<;>(rw[World.size_alloc];omega)) ?_
           intro A9 c9 w9 hown9 hg9 hob9;have k7:w9.cell? ⟨v.heap.size,7,none⟩=some (.slice AV acc.len CV):=((HN8.out.alloc _).app hg9 (fun e=>(HO8.out.ge _ e).1.2 rfl)).c7
           have j7:w9.frozen? ⟨v.heap.size,7,none⟩=false:=((HN8.out.alloc _).app hg9 (fun e=>(HO8.out.ge _ e).1.2 rfl)).fr 7)
         |(go_simp;go_at_call 36;refine(EXC.out _ HSD.out).mono ?_
           rintro e9 w8 ⟨op8,ln8,t8,k8,m8,u8,va8,vc8,V8,sub8,hn,rfl,hm,ho,hk,hl,hd⟩;obtain⟨A8,c8,rfl⟩:=ho.form;have hn':n5=nd op8 ln8 t8 k8 m8 u8 sub8:=hn;have HK8:=hid (show qQ n5∧(n5).len≤1 from⟨hk,by rw[hn',qg];exact Nat.le_refl _⟩);have HNN:=hid hn';have HDD:=hid (show p5.deep=p.deep+1 by have h:p5.deep=q.deep:=hd;(try simp at h);omega);have HG:=hid (show w22.grownBy w8 (some X.P)from⟨hm.grown.os,hm.grown.tape,hm.grown.output,hm.grown.size,hm.grown.block⟩);have HM8:=hid (HMD.out.trans hm);have hs8:w22.heap.size≤w8.heap.size:=hm.grown.size;have HN8:=hid (NdB.grown (w:=w22) n.out HG.out (show X.P<v.heap.size by omega));have HO8:=hid (OwnN.grown (w:=w22) C.out HG.out (DG.not (by omega)));have APP:=hid (jH HO8.out ho op8 ln8 t8 k8 m8 u8 va8 vc8 (by show _≤w22.heap.size;omega) (by show _<w22.heap.size;omega) (by show w22.heap.size≤_;omega) vlt.out);have c7_8:=HN8.out.c7;have c7_9:=fun o=>qq c7_8 o;clear hn hn' hm ho hk hl hd
           unfold qN))
       all_goals
        obtain⟨wc,hwc⟩: ∃W,W=w9.setCell ⟨v.heap.size,7,none⟩ (.slice A9 (acc.len+(nd op8 ln8 t8 k8 m8 u8 sub8).len) c9):=⟨_,rfl⟩
        rw[←hwc];have hcut:zC X w w22 p5 (v.heap.size+1) v.heap.size (.int .i64 52) (.int .i64 (qd X.l p)) (.string ⟨#[]⟩) (.int .i64 0) (.int .i64 0) (.string ⟨#[]⟩) (.slice none 0 0) acc n5 1 (p.deep+1) wc:=by rw[hwc];exact jq HG.out HM8.out HN8.out HO8.out (by omega) (by omega) (by omega) (by omega) (by rw[HNN.out];exact hown9) hg9 HK8.out.2 HK8.out.1 HDD.out
        clear hwc;obtain⟨V23,A,hd23,hn23,ho23,hx23,hk23,hs23,hf23⟩:=hcut;obtain⟨A23,c23,rfl⟩:=ho23.form;have ae:=hid A;have aa:=hid hn23;have ac:=hid ho23;have HX23:=hid hk23;have ab:=hid (hf23 _ _ _ _ _ _ _ _ _ (by omega) (by omega) (by omega) d.out);clear A hn23 ho23 hk23 hf23;go_wp2_with fail
        go_roundg k
        case measure=>omega
        case rel=>exact⟨_,p5,(acc.app n5),by rw[NL.len_app];omega,by omega,by omega,ae,ab,aa,ac,hid (qG _ _ HK.out HX23.out),HQ2⟩
end Go.Proofs.YtggngahmafbihaaGreatDoor
