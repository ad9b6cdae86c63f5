/- Contracts, and the plain mathematics beneath. -/
import Derived.Maps.AppendAt
import Derived.Laws.ResultCell
import Derived.Test.YtggngahmafbihaaGreatDoorPerAB
set_option linter.unusedVariables false
set_option linter.unusedSimpArgs false
set_option maxRecDepth 100000
set_option maxHeartbeats 2000000
namespace Go.Proofs.YtggngahmafbihaaGreatDoor
open Go.RowKit Go.Lib
section
def CellsOf(w:World)(S:Nat→Prop):VL→List Value→Prop
 | .nil,xs=>xs= []
 | .cons k n s sub rest,xs=> ∃(sa:Option Addr)(sc:Nat)(ys:List Value),xs= .int .i64 k:: .int .i64 n:: .string s:: .slice sa sub.len sc::ys∧sub.len≤sc∧RpL w S sub sa∧CellsOf w S rest ys
theorem CellsOf.keep{w w':World}{S S':Nat→Prop}(f: ∀b,S b→w'.heap[b]?=w.heap[b]?)(e: ∀b,S b→S' b): ∀(l:VL)(xs:List Value),CellsOf w S l xs→CellsOf w' S' l xs
 | .nil,_,h=>h
 | .cons _ _ _ sub rest,_,⟨sa,sc,ys,hx,hc,hs,hr⟩=>⟨sa,sc,ys,hx,hc,RpL.keep f e sub sa hs,CellsOf.keep f e rest ys hr⟩
theorem CellsOf.length{w:World}{S:Nat→Prop}: ∀(l:VL)(xs:List Value),CellsOf w S l xs→xs.length=l.len*4
 | .nil,_,h=>by have:_= []:=h;subst this;rfl
 | .cons _ _ _ sub rest,_,⟨sa,sc,ys,hx,hc,hs,hr⟩=>by
   subst hx;have:=CellsOf.length rest ys hr;simp only[List.length_cons,VL.len];omega
theorem CellsOf.one{w:World}{S:Nat→Prop}: ∀(l:VL)(xs:List Value),CellsOf w S l xs→ ∀u∈xs,u.oneCell'=true
 | .nil,_,h=>by have:_= []:=h;subst this;simp
 | .cons _ _ _ sub rest,_,⟨sa,sc,ys,hx,hc,hs,hr⟩=>by
   subst hx;intro u hu;simp only[List.mem_cons]at hu;rcases hu with rfl|rfl|rfl|rfl|hu
   ·rfl
   ·rfl
   ·rfl
   ·rfl
   ·exact CellsOf.one rest ys hr u hu
theorem CellsOf.app{w:World}{S:Nat→Prop}: ∀(l m:VL)(xs ys:List Value),CellsOf w S l xs→CellsOf w S m ys→CellsOf w S (l.app m) (xs++ys)
 | .nil,m,xs,ys,h,h2=>by have:xs= []:=h;subst this;exact h2
 | .cons _ _ _ sub rest,m,_,ys,⟨sa,sc,zs,hx,hc,hs,hr⟩,h2=>by
   subst hx;exact⟨sa,sc,zs++ys,rfl,hc,hs,CellsOf.app rest m zs ys hr h2⟩
theorem CellsOf.rep{w:World}{S:Nat→Prop}{g:Nat}(hg:S g): ∀(l:VL)(xs:List Value)(o:Nat),CellsOf w S l xs→(∀j u,xs[j]?=some u→w.cell? ⟨g,o+j,none⟩=some u)→RpL w S l (some ⟨g,o,none⟩)
 | .nil,_,_,_,_=>trivial
 | .cons k n s sub rest,_,o,⟨sa,sc,ys,hx,hc,hs,hr⟩,hcell=>by
   subst hx
   exact⟨g,o,sa,sc,rfl,hg,hcell 0 _ rfl,hcell 1 _ rfl,hcell 2 _ rfl,hcell 3 _ rfl,hc,hs,
    CellsOf.rep hg rest ys (o+4) hr (fun j u e=>by rw[show o+4+j=o+(j+4)from by omega];exact hcell (j+4) u e)⟩
theorem KY{w:World}{e:Nat}{v:Value}{l:VL}{xs:List Value}{S:Nat→Prop}(h:w.ownsRow e 28 4 v l.len xs)(hc:CellsOf w S l xs)(n: ∀g,v.ownBlock=some g→S g):
 ∃(sa:Option Addr)(sc:Nat),v= .slice sa l.len sc∧l.len≤sc∧RpL w S l sa:=by
 rcases h.2 with⟨rfl,hl⟩|⟨g,cap,i,rfl,_,o,f,_,q,r⟩
 ·rw[hl]
  refine⟨none,0,rfl,Nat.le_refl _,?_⟩
  cases l with
  |nil=>trivial
  |cons=>simp[VL.len]at hl
 ·refine⟨some ⟨g,0,none⟩,cap,rfl,f,CellsOf.rep (n g rfl) l xs 0 hc (fun j u k=> ?_)⟩
  rw[Nat.zero_add,cell_of_row w g j i _ _ o, ←Array.getElem?_toList];have m:=CellsOf.length l xs hc;have p:j<xs.length:=(List.getElem?_eq_some_iff.1 k).1;rw[←r,List.getElem?_take_of_lt (by omega)]at k;exact k
def PVal(w:World)(R:Nat)(s:ByteArray)(r:Nat×Bool×VL)(e:Ending)(w':World):Prop:=
 ∃(k n:Int)(t:ByteArray)(sa:Option Addr)(l sc:Nat),e= .returned (.agg #[.int .i64 k,.int .i64 n,.string t,.slice sa l sc])∧Rds w w' R s r.1 r.2.1∧
  (r.2.1=true→ ∃sub:VL,r.2.2=zv k n t sub∧l=sub.len∧sub.len≤sc∧RpL w' (fun b=>w.heap.size≤b∧b<w'.heap.size) sub sa)
def qad(f:Nat):Prop:= ∀(R:Nat)(s:ByteArray)(i:Nat)(w:World),RdAt w R s i true→s.size≤1000000000→i≤s.size→2*(s.size-i)+2≤f→
 Calls Tryz.prog 158 #[.pointer (some ⟨R,0,none⟩)] w (PVal w R s (qI s f i))
theorem qbW(n:Int)(w:World):Calls Tryz.prog 189 #[.int .i64 n] w fun e w'=>e= .returned (.agg #[.int .i64 0,.int .i64 n,.string ⟨#[]⟩,.slice none 0 0])∧w.alloc (.cells #[.int .i64 0,.int .i64 n,.string ⟨#[]⟩,.slice none 0 0] 28)=w':=by
 go_enter Tryz.func189,Tryz.ntmps189
 go_wp2
 go_returns
 exact⟨rfl,rfl⟩
theorem qgB(n:Int)(w:World):Calls Tryz.prog 186 #[.int .i64 n] w fun e w'=>e= .returned (.agg #[.int .i64 1,.int .i64 n,.string ⟨#[]⟩,.slice none 0 0])∧w.alloc (.cells #[.int .i64 1,.int .i64 n,.string ⟨#[]⟩,.slice none 0 0] 28)=w':=by
 go_enter Tryz.func186,Tryz.ntmps186
 go_wp2
 go_returns
 exact⟨rfl,rfl⟩
theorem qgA(n:Int)(w:World):Calls Tryz.prog 193 #[.int .i64 n] w fun e w'=>e= .returned (.agg #[.int .i64 3,.int .i64 n,.string ⟨#[]⟩,.slice none 0 0])∧w.alloc (.cells #[.int .i64 3,.int .i64 n,.string ⟨#[]⟩,.slice none 0 0] 28)=w':=by
 go_enter Tryz.func193,Tryz.ntmps193
 go_wp2
 go_returns
 exact⟨rfl,rfl⟩
theorem qgC(t:ByteArray)(w:World):Calls Tryz.prog 190 #[.string t] w fun e w'=>e= .returned (.agg #[.int .i64 2,.int .i64 0,.string t,.slice none 0 0])∧w.alloc (.cells #[.int .i64 2,.int .i64 0,.string t,.slice none 0 0] 28)=w':=by
 go_enter Tryz.func190,Tryz.ntmps190
 go_wp2
 go_returns
 exact⟨rfl,rfl⟩
def StB(w:World)(g:Nat)(a b c d:Value):Prop:=w.heap[g]?=some (.cells #[a,b,c,d] 28 (0,0))
section
variable {w w' : World} {g : Nat} {a b c d : Value}
theorem StB.lt(h:StB w g a b c d):g<w.heap.size:=by
 rcases Nat.lt_or_ge g w.heap.size with e|hge
 ·exact e
 ·unfold StB at h;rw[Array.getElem?_eq_none hge]at h;cases h
theorem StB.c0(h:StB w g a b c d):w.cell? ⟨g,0,none⟩=some a:=cell_of_row w g 0 _ _ _ h
theorem StB.c1(h:StB w g a b c d):w.cell? ⟨g,1,none⟩=some b:=cell_of_row w g 1 _ _ _ h
theorem StB.c2(h:StB w g a b c d):w.cell? ⟨g,2,none⟩=some c:=cell_of_row w g 2 _ _ _ h
theorem StB.c3(h:StB w g a b c d):w.cell? ⟨g,3,none⟩=some d:=cell_of_row w g 3 _ _ _ h
theorem StB.fr(h:StB w g a b c d)(k:Nat):w.frozen? ⟨g,k,none⟩=false:=by unfold StB at h;simp[World.frozen?,h]
theorem StB.new(w:World)(a b c d:Value):StB (w.alloc (.cells #[a,b,c,d] 28)) w.heap.size a b c d:=by
 unfold StB World.alloc;simp
theorem StB.alloc(h:StB w g a b c d)(o:Obj):StB (w.alloc o) g a b c d:=(Below.heap_alloc w o g h.lt).trans h
theorem StB.set3(h:StB w g a b c d)(u:Value):StB (w.setCell ⟨g,3,none⟩ u) g a b c u:=by
 unfold StB at h⊢;simp[World.setCell,Array.getElem?_modify,h]
theorem StB.far(h:StB w g a b c d){p:Addr}(hp:g≠p.block)(u:Value):StB (w.setCell p u) g a b c d:=(Below.heap_setCell w p u g hp).trans h
theorem StB.only(h:StB w g a b c d){row:Option Nat}(hg:w.grownBy w' row)(hr:some g≠row):StB w' g a b c d:=(hg.block g h.lt hr).trans h
theorem StB.drewN(h:StB w g a b c d)(n:Nat):StB (w.drewN n) g a b c d:=h
end
theorem StB.set4{w:World}{g:Nat}{a b c d:Value}(h:StB w g a b c d)(a' b' e d':Value):
 StB ((((w.setCell ⟨g,0,none⟩ a').setCell ⟨g,1,none⟩ b').setCell ⟨g,2,none⟩ e).setCell ⟨g,3,none⟩ d') g a' b' e d':=by
 unfold StB at h⊢;simp[World.setCell,Array.getElem?_modify,h]
theorem Xb{i:Func}{p:Tmp}(h:i.results= #[.cell p 28])(e:Array Value)(w:World)(g:Nat)(hp:e.getD p undef= .pointer (some ⟨g,0,none⟩)){a b c d:Value}(f:StB w g a b c d):
 (results i e).run Tryz.prog w= .ok (.agg #[a,b,c,d]) w:=by
 have j:=f.c0;have c1:=f.c1;have c2:=f.c2;have c3:=f.c3;have hp':(e[p]?).getD undef= .pointer (some ⟨g,0,none⟩):=by simpa using hp
 simp[results,h,hp',go_sem,j,c1,c2,c3]
theorem jp{f:Func}{p:Tmp}{Q:Ending→World→Prop}{e:Act}{w:World}(h:f.results= #[.cell p 28])(g:Nat)(hp:e.tmps.getD p undef= .pointer (some ⟨g,0,none⟩))(hd:e.defers= [])
 {a b c d:Value} (j:StB w g a b c d) (i:Q (.returned (.agg #[a,b,c,d])) w):bodyPost Tryz.prog f Q .ret e w:=
 bodyPost_ret (Xb h e.tmps w g hp j) hd i
theorem qdF:(Tryz.prog.info? 28).map (fun i=>(i.zero,i.size,i.bytes))=some (some (.agg #[.int .i64 0,.int .i64 0,.string ⟨#[]⟩,.slice none 0 0]),4,56):=by kernel_rfl
theorem Rds.far{e w2:World}{R:Nat}{s:ByteArray}{i:Nat}{ok:Bool}(h:Rds e w2 R s i ok){p:Addr}(hp:e.heap.size≤p.block)(f:R<e.heap.size)(u:Value):Rds e (w2.setCell p u) R s i ok:=
 ⟨(Below.heap_setCell w2 p u R (by omega)).trans h.at_,qJ h.grown (.inr hp) u⟩
theorem Rds.far4{f w2:World}{R:Nat}{s:ByteArray}{i:Nat}{ok:Bool}(h:Rds f w2 R s i ok){g:Nat}(hp:f.heap.size≤g)(e:R<f.heap.size)(a b c d:Value):
 Rds f ((((w2.setCell ⟨g,0,none⟩ a).setCell ⟨g,1,none⟩ b).setCell ⟨g,2,none⟩ c).setCell ⟨g,3,none⟩ d) R s i ok:=
 (((h.far (p:=⟨g,0,none⟩) hp e a).far (p:=⟨g,1,none⟩) hp e b).far (p:=⟨g,2,none⟩) hp e c).far (p:=⟨g,3,none⟩) hp e d
def Jp(s:ByteArray)(f i:Nat):Nat×Bool×VL:=
 if pk s (i+1)=125 then(i+2,true,zv 4 0 ByteArray.empty .nil)
 else((zy s f (i+1) .nil).1,(zy s f (i+1) .nil).2.1,zv 4 0 ByteArray.empty (zy s f (i+1) .nil).2.2)
theorem xg{W:World}{f e i n:Nat}{v:Value}{xs:List Value}(h:W.ownsRow f e i v n xs): ∃(A:Option Addr)(C:Nat),v= .slice A n C:=by
 rcases h.2 with⟨rfl,hn⟩|⟨g,cap,j,rfl,_⟩
 ·subst hn;exact⟨none,0,rfl⟩
 ·exact⟨some ⟨g,0,none⟩,cap,rfl⟩
theorem kW(w:World)(g:Nat)(a b c d:Value)(k:Nat)(h:k≠g):((((w.setCell ⟨g,0,none⟩ a).setCell ⟨g,1,none⟩ b).setCell ⟨g,2,none⟩ c).setCell ⟨g,3,none⟩ d).heap[k]?=w.heap[k]?:=by
 rw[Below.heap_setCell _ _ _ _ h,Below.heap_setCell _ _ _ _ h,Below.heap_setCell _ _ _ _ h,Below.heap_setCell _ _ _ _ h]
theorem ko(w:World)(g:Nat)(a b c d:Value):((((w.setCell ⟨g,0,none⟩ a).setCell ⟨g,1,none⟩ b).setCell ⟨g,2,none⟩ c).setCell ⟨g,3,none⟩ d).heap.size=w.heap.size:=by simp[World.setCell]
structure LInv (w wr:World) (R:Nat) (s:ByteArray) (j:Nat) (V:Value) (acc:VL) (xs:List Value):Prop where
 rds:Rds w wr R s j true
 b2:StB wr w.heap.size (.int .i64 0) (.int .i64 0) (.string ⟨#[]⟩) (.slice none 0 0)
 b3:StB wr (w.heap.size+1) (.int .i64 4) (.int .i64 0) (.string ⟨#[]⟩) V
 own:wr.ownsRow (w.heap.size+2) 28 4 V acc.len xs
 cells:CellsOf wr (fun b=>w.heap.size+2≤b∧b<wr.heap.size∧V.ownBlock≠some b) acc xs
 size:w.heap.size+2≤wr.heap.size
theorem Z5{W:World}{f e i n:Nat}{v:Value}{xs:List Value}(h:W.ownsRow f e i v n xs)(k:Nat)(hk:v.ownBlock=some k):k<W.heap.size:=by
 rcases h.2 with⟨rfl,_⟩|⟨g,cap,m,rfl,hb,l,_⟩
 ·cases hk
 ·injection hk with hk
  subst hk;rcases Nat.lt_or_ge g W.heap.size with j|hge
  ·exact j
  ·rw[Array.getElem?_eq_none hge]at l;cases l
theorem LInv.move{w wr f:World}{R:Nat}{s:ByteArray}{j i:Nat}{V:Value}{acc:VL}{xs:List Value}(h:LInv w wr R s j V acc xs){k:Bool}(hr:Rds wr f R s i k)(l:R<w.heap.size):
 StB f w.heap.size (.int .i64 0) (.int .i64 0) (.string ⟨#[]⟩) (.slice none 0 0)∧StB f (w.heap.size+1) (.int .i64 4) (.int .i64 0) (.string ⟨#[]⟩) V∧f.ownsRow (w.heap.size+2) 28 4 V acc.len xs∧
  CellsOf f (fun b=>w.heap.size+2≤b∧b<f.heap.size∧V.ownBlock≠some b) acc xs∧w.heap.size+2≤f.heap.size:=
 ⟨h.b2.only hr.grown (fun e=>by injection e with e;omega),h.b3.only hr.grown (fun e=>by injection e with e;omega),xF h.own hr.grown (by omega),
  h.cells.keep (fun b hb=>hr.grown.block b hb.2.1 (fun e=>by injection e with e;omega)) (fun b hb=>⟨hb.1,Nat.lt_of_lt_of_le hb.2.1 hr.grown.size,hb.2.2⟩),Nat.le_trans h.size hr.grown.size⟩
theorem LInv.ok{w wr f:World}{R:Nat}{s:ByteArray}{j i:Nat}{V:Value}{acc:VL}{xs:List Value}(h:LInv w wr R s j V acc xs)(hr:Rds wr f R s i true)(e:R<w.heap.size):LInv w f R s i V acc xs:=
 ⟨h.rds.trans hr,(h.move hr e).1,(h.move hr e).2.1,(h.move hr e).2.2.1,(h.move hr e).2.2.2.1,(h.move hr e).2.2.2.2⟩
theorem J9(w:World)(B:Nat)(f:B=w.heap.size)(a b c d:Value)(t:TypeId): ∀j u,[a,b,c,d][j]?=some u→(w.alloc (.cells #[a,b,c,d] t)).cell? ((⟨B,0,none⟩:Addr).add j)=some u:=by
 subst f;intro j u h;have e:(⟨w.heap.size,0,none⟩:Addr).add j=⟨w.heap.size,j,none⟩:=by unfold Addr.add;split<;>simp_all
 rw[e,World.cell?_alloc_at _ _ _ _ rfl]
 simpa using h
theorem LInv.grow{w wr w3 m:World}{R:Nat}{s:ByteArray}{j q:Nat}{V:Value}{acc:VL}{xs:List Value}(h:LInv w wr R s j V acc xs)(hr:Rds wr w3 R s q true)(n:R<w.heap.size){k l:Obj}
 (hg:((w3.alloc k).alloc l).grownBy m V.ownBlock):StB m (w.heap.size+1) (.int .i64 4) (.int .i64 0) (.string ⟨#[]⟩) V:=by
 obtain⟨_,i,_,_,_⟩:=h.move hr n;have f:=i.lt;have o:((w3.alloc k).alloc l).heap.size=w3.heap.size+2:=by simp
 have h1:=hg.block (w.heap.size+1) (by omega) (fun e=>by have:=kO h.own _ e.symm;omega);exact(h1.trans ((Below.heap_alloc _ _ _ (by simp;omega)).trans (Below.heap_alloc _ _ _ f))).trans i
theorem LInv.step{w wr w3 i:World}{R:Nat}{s:ByteArray}{j q:Nat}{V l:Value}{acc:VL}{xs:List Value}(h:LInv w wr R s j V acc xs)(hr:Rds wr w3 R s q true)(F:R<w.heap.size)
 {k n:Int} {t:ByteArray} {sub:VL} {sa:Option Addr} {sc:Nat} (H:sub.len≤sc) (C:RpL w3 (fun b=>wr.heap.size≤b∧b<w3.heap.size) sub sa) {D E:Obj}
 (B:i.ownsRow (w.heap.size+2) 28 4 l (acc.len+1) (xs++ [.int .i64 k,.int .i64 n,.string t,.slice sa sub.len sc])) (hg:((w3.alloc D).alloc E).grownBy i V.ownBlock)
 (G:l.ownBlock=V.ownBlock∨l.ownBlock=some ((w3.alloc D).alloc E).heap.size):
 LInv w (i.setCell ⟨w.heap.size+1,3,none⟩ l) R s q l (acc.app (zv k n t sub)) (xs++ [.int .i64 k,.int .i64 n,.string t,.slice sa sub.len sc]):=by
 obtain⟨K,L,U,P,W⟩:=h.move hr F;have m: ∀g,V.ownBlock=some g→w.heap.size+2≤g∧g<wr.heap.size:=fun g hg=>⟨kO h.own g hg,Z5 h.own g hg⟩
 have M:((w3.alloc D).alloc E).heap.size=w3.heap.size+2:=by simp
 have O:w3.heap.size+2≤i.heap.size:=by have:=hg.size;omega
 have N:=hr.grown.size
 have r: ∀b,b<w3.heap.size→V.ownBlock≠some b→i.heap[b]?=w3.heap[b]?:=fun b hb f=>by
  have h1:=hg.block b (by omega) (fun e=>f e.symm);rw[h1,Below.heap_alloc _ _ _ (by simp;omega),Below.heap_alloc _ _ _ hb]
 have u: ∀b,b<w3.heap.size→V.ownBlock≠some b→l.ownBlock≠some b:=fun b hb f e=>by
  rcases G with e2|e2
  ·exact f (e2.symm.trans e)
  ·rw[e]at e2
   injection e2 with e2
   omega
 have x:V.ownBlock≠some w.heap.size:=fun e=>by have:=(m _ e).1;omega
 have z:V.ownBlock≠some (w.heap.size+1):=fun e=>by have:=(m _ e).1;omega
 have I:V.ownBlock≠some R:=fun e=>by have:=(m _ e).1;omega
 have v:=K.lt;have y:=L.lt;have S:StB i w.heap.size (.int .i64 0) (.int .i64 0) (.string ⟨#[]⟩) (.slice none 0 0):=(r _ v x).trans K;have T:StB i (w.heap.size+1) (.int .i64 4) (.int .i64 0) (.string ⟨#[]⟩) V:=(r _ y z).trans L;have Q:Rds w i R s q true:=Rds.append (((h.rds.trans hr).alloc D).alloc E) hg F (fun k hk=>by have:=(m k hk).1;omega);have o: ∀b,w.heap.size+2≤b→(i.setCell ⟨w.heap.size+1,3,none⟩ l).heap[b]?=i.heap[b]?:=fun b hb=>Below.heap_setCell _ _ _ _ (by show b≠w.heap.size+1;omega);have A:(i.setCell ⟨w.heap.size+1,3,none⟩ l).heap.size=i.heap.size:=by simp[World.setCell]
 refine⟨Q.far (p:=⟨w.heap.size+1,3,none⟩) (by show w.heap.size≤w.heap.size+1;omega) F l,S.far (p:=⟨w.heap.size+1,3,none⟩) (by show w.heap.size≠w.heap.size+1;omega) l,T.set3 l,?_,?_,?_⟩
 ·rw[VL.len_app]
  exact JA B (by omega) 3
 ·refine CellsOf.app _ _ _ _ ?_ ⟨sa,sc,[],rfl,H,?_,rfl⟩
  ·refine P.keep (fun b hb=> ?_) (fun b hb=>⟨hb.1,by rw[A];have:=hb.2.1;omega,u b hb.2.1 hb.2.2⟩)
   rw[o b hb.1,r b hb.2.1 hb.2.2]
  ·have f: ∀b,wr.heap.size≤b→V.ownBlock≠some b:=fun b hb e=>by have:=(m b e).2;omega
   have J:=h.size;refine C.keep (fun b hb=> ?_) (fun b hb=>⟨by have:=hb.1;omega,by rw[A];have:=hb.2;omega,u b hb.2 (f b hb.1)⟩);rw[o b (by have:=hb.1;omega),r b hb.2 (f b hb.1)]
 ·rw[A];omega
end
theorem qfI(f:Nat)(ih: ∀f',f'<f→qad f')(R:Nat)(s:ByteArray)(i:Nat)(w:World)(h:RdAt w R s i true)(hs:s.size≤1000000000)(P:pk s i=123)(hf:2*(s.size-i)+1≤f):
 Calls Tryz.prog 192 #[.pointer (some ⟨R,0,none⟩)] w (PVal w R s (Jp s f i)):=by
 obtain⟨i0,hi0,hz0,ag,hz2⟩:=info_parts qdF;have hi:i<s.size:=zh (by rw[P];decide);have p:=h.lt;have tk:=fun W A=>xz R s i true 123 W A hs;have e1:zQ s i true 123=true:=by simp[zQ,hi,P]
 have e2:zS s i true 123=i+1:=by unfold zS;rw[e1];rfl
 rw[e1,e2]at tk;have TK:=hid tk;have Y:=hid (fun W A=>xv R s (i+1) true W A);have IH:=hid ih;clear tk e1 e2 P ih;obtain⟨wa,N⟩: ∃wa,wa=(w.alloc (.cells #[.int .i64 0,.int .i64 0,.string ⟨#[]⟩,.slice none 0 0] 28)).alloc (.cells #[.int .i64 4,.int .i64 0,.string ⟨#[]⟩,.slice none 0 0] 28):=⟨_,rfl⟩
 have hra:Rds w wa R s i true:=by rw[N];exact((Rds.of h).alloc _).alloc _
 have F:StB wa w.heap.size (.int .i64 0) (.int .i64 0) (.string ⟨#[]⟩) (.slice none 0 0):=by rw[N];exact(StB.new w _ _ _ _).alloc _
 have G:StB wa (w.heap.size+1) (.int .i64 4) (.int .i64 0) (.string ⟨#[]⟩) (.slice none 0 0):=by rw[N];have:=StB.new (w.alloc (.cells #[.int .i64 0,.int .i64 0,.string ⟨#[]⟩,.slice none 0 0] 28)) (.int .i64 4) (.int .i64 0) (.string ⟨#[]⟩) (.slice none 0 0);simpa using this
 have HA:=hid hra;have HB2:=hid F;have HB3:=hid G;have hza:wa.heap.size=w.heap.size+2:=by rw[N];simp
 have HZA:=hid hza;clear hra F G hza;go_enter Tryz.func192,Tryz.ntmps192
 go_wp2_with fail
 rw[←N];refine(TK.out _ HA.out.at_).mono ?_;rintro e w1 ⟨rfl,U⟩;have gb1:some w.heap.size≠some R:=fun e=>by injection e with e;omega
 have gb2:some (w.heap.size+1)≠some R:=fun e=>by injection e with e;omega
 have F:=HB2.out.only U.grown gb1;have G:=HB3.out.only U.grown gb2;have L:=hid (HA.out.trans U);have ag:w.heap.size+2≤w1.heap.size:=by have:=U.grown.size;have:=HZA.out;omega
 clear U;by_cases P:pk s (i+1)=125
 ·have T:=hid (show Jp s f i=(i+2,true,zv 4 0 ByteArray.empty .nil)by unfold Jp;rw[if_pos P])
  have hi2:i+1<s.size:=zh (by rw[P];decide)
  have PK:=hid (show ∀W,RdAt W R s (i+1) true→Calls Tryz.prog 185 #[.pointer (some ⟨R,0,none⟩)] W fun e w'=>e= .returned (.int .u8 125)∧ ∃n,w'=W.drewN n from fun W A=>by
   have:=Y.out W A;rw[P]at this
   exact this)
  have tk:=fun W A=>xz R s (i+1) true 125 W A hs;have e1:zQ s (i+1) true 125=true:=by simp[zQ,hi2,P]
  have e2:zS s (i+1) true 125=i+2:=by unfold zS;rw[e1];rfl
  rw[e1,e2]at tk;have TK2:=hid tk;clear tk e1 e2 P Y;go_wp2_with fail
  refine(PK.out _ L.out.at_).mono ?_;rintro e w2 ⟨rfl,n2,rfl⟩;go_wp2_with fail
  refine(TK2.out _ (L.out.at_.drewN n2)).mono ?_;rintro e w3 ⟨rfl,l⟩;have o:=(F.drewN n2).only l.grown gb1;have ac:=(G.drewN n2).only l.grown gb2;have k20:=o.c0;have k21:=o.c1;have k22:=o.c2;have k23:=o.c3;have k30:=ac.c0;have k31:=ac.c1;have k32:=ac.c2;have X:=ac.c3;have m20:=o.fr 0;have m21:=o.fr 1;have m22:=o.fr 2;have m23:=o.fr 3;have HR3:=hid (Rds.trans (L.out.drewN n2) l);clear l F G;go_wp2_with fail
  refine jp Tryz.results192 w.heap.size rfl rfl (o.set4 _ _ _ _) ?_;rw[T.out];exact⟨4,0,⟨#[]⟩,none,0,0,rfl,HR3.out.far4 (Nat.le_refl _) p _ _ _ _,fun _=>⟨.nil,rfl,rfl,Nat.le_refl _,trivial⟩⟩
 ·have T:=hid (show Jp s f i=((zy s f (i+1) .nil).1,(zy s f (i+1) .nil).2.1,zv 4 0 ByteArray.empty (zy s f (i+1) .nil).2.2)by unfold Jp;rw[if_neg P])
  have nq:=jN (x:=pk s (i+1)) 125 125 rfl P;obtain⟨c1,hc1⟩: ∃c:Nat,c=(pk s (i+1)).toNat:=⟨_,rfl⟩
  rw[←hc1]at nq Y;obtain⟨nq1,nq2⟩:=nq;clear P hc1;go_wp2_with fail
  refine(Y.out _ L.out.at_).mono ?_;rintro e w2 ⟨rfl,n2,rfl⟩;have HR2:=hid (L.out.drewN n2);have HC2:=hid (F.drewN n2);have HC3:=hid (G.drewN n2);clear F G;obtain⟨wL,af⟩: ∃wL,wL=w1.drewN n2:=⟨_,rfl⟩
  have hzL:w.heap.size+2≤wL.heap.size:=by rw[af];exact ag
  rw[←af]at HR2 HC2 HC3;rw[←af];clear af ag;go_wp2_with fail
  have HL0:=hid (show LInv w wL R s (i+1) (.slice none 0 0) .nil []from⟨HR2.out,HC2.out,HC3.out,World.ownsRow_nil _ _ _ _,rfl,hzL⟩);clear HR2 HC2 HC3 L HA N HB2 HB3 TK Y nq1 nq2 gb1 gb2;go_loopg [] f (fun k wr=> ∃(V:Value)(j:Nat)(acc:VL)(xs:List Value),LInv w wr R s j V acc xs∧j≤s.size∧2*(s.size-j)+3≤k∧k≤f∧acc.len≤j∧Hid (zy s k j acc=zy s f (i+1) .nil))
  case atStart=>exact⟨.slice none 0 0,i+1,.nil,[],HL0.out,by omega,by omega,Nat.le_refl _,Nat.zero_le _,rfl⟩
  case round=>
   obtain⟨V,j,acc,xs,ad,hj,hk,hkf,hal,ae⟩:=hrel;obtain⟨k,rfl⟩: ∃k,gk=k+1:=⟨gk-1,by omega⟩
   have hrj:=ad.rds.at_;obtain⟨VA,VC,rfl⟩:=xg ad.own;have LI:=hid ad;clear ad;go_wp2_with fail
   refine(IH.out k (by omega) R s j wr hrj hs hj (by omega)).mono ?_;rintro e w3 hpv;obtain⟨vk,vn,vt,va,vl,vc,rfl,l,B⟩:=hpv;have hpl:=Qk s k j hj;obtain⟨q,okb,vv,hrr⟩: ∃q okb vv,qI s k j=(q,okb,vv):=⟨_,_,_,rfl⟩
   have Z:=hid (show zy s (k+1) j acc=if okb=false then(q,false,acc)else if pk s q=44 then if pk s (q+1)=32 then zy s k (q+2) (acc.app vv)else(q+1,false,acc.app vv)else if pk s q=125 then(q+1,true,acc.app vv)else(q,false,acc.app vv)by rw[zy,hrr]);rw[hrr]at l B hpl;simp only at l B hpl;obtain⟨hpl1,hpl2⟩:=hpl;clear hrr;have gR:R<w3.heap.size:=l.at_.lt
   cases okb with
   |false=>
    have t:=hid (Z.out.trans (if_pos rfl));obtain⟨m,C,Q,mc,mz⟩:=LI.out.move l p;have M:=hid (m.alloc (.cells #[.int .i64 vk,.int .i64 vn,.string vt,.slice va vl vc] 28));have M3:=hid (C.alloc (.cells #[.int .i64 vk,.int .i64 vn,.string vt,.slice va vl vc] 28));have MR:=hid ((LI.out.rds.trans l).alloc (.cells #[.int .i64 vk,.int .i64 vn,.string vt,.slice va vl vc] 28));have k20:=M.out.c0;have k21:=M.out.c1;have k22:=M.out.c2;have k23:=M.out.c3;have k30:=M3.out.c0;have k31:=M3.out.c1;have k32:=M3.out.c2;have X:=M3.out.c3;have f20:=M.out.fr 0;have f21:=M.out.fr 1;have f22:=M.out.fr 2;have f23:=M.out.fr 3;have kr:=MR.out.at_.c2;clear B l m C Q mc mz Z;go_wp2_with fail
    refine jp Tryz.results192 w.heap.size rfl rfl (M.out.set4 _ _ _ _) ?_;rw[T.out, ←ae.out,t.out];exact⟨4,0,⟨#[]⟩,VA,acc.len,VC,rfl,MR.out.far4 (Nat.le_refl _) p _ _ _ _,fun e=>by cases e⟩
   |true=>
    have t:=hid (Z.out.trans (if_neg (by decide)));obtain⟨sub,hvv,hvl,hsc,hrep⟩:=B rfl;subst hvl;rw[hvv]at t;have RP:=hid hrep;have R3:=hid l;obtain⟨m,C,Q,mc,mz⟩:=LI.out.move l p;have M3:=hid (C.alloc (.cells #[.int .i64 vk,.int .i64 vn,.string vt,.slice va sub.len vc] 28));have MR:=hid ((LI.out.rds.trans l).alloc (.cells #[.int .i64 vk,.int .i64 vn,.string vt,.slice va sub.len vc] 28));have MO:=hid Q;have NX:=StB.new w3 (.int .i64 vk) (.int .i64 vn) (.string vt) (.slice va sub.len vc);have X:=M3.out.c3;have n0:=NX.c0;have n1:=NX.c1;have n2':=NX.c2;have n3:=NX.c3;have kr:=MR.out.at_.c2;clear B l m C Q mc Z hvv hrep NX
    go_wp2_with (at_builtin;refine wpList_append_own_at _ rfl (.tmp 20) (.tmp 22) 26 rfl (w.heap.size+2) 28 i0 _ 4 56 Tryz.underlying26 hi0 hz0 ag hz2 rfl (by decide) (.slice VA acc.len VC) acc.len xs rfl ((MO.out.alloc _).alloc _) ⟨w3.heap.size+1,0,none⟩ 1 1 [.int .i64 vk,.int .i64 vn,.string vt,.slice va sub.len vc] rfl rfl ?c1 ?c2 ?c3 ?c4 ?c5 ?_
                 case c1=>exact J9 (w3.alloc _) _ (by simp) _ _ _ _ _
                 case c2=>intro u hu;simp at hu;rcases hu with rfl|rfl|rfl|rfl<;>rfl
                 case c3=>unfold maxLen;omega
                 case c4=>omega
                 case c5=>simp;omega
                 intro V' w5 z H _ hob;obtain⟨aa,ab,hV'⟩:=xg z;rw[hV']at z hob⊢;have s5:=LInv.grow LI.out R3.out p H;have s53:=s5.c3;have s5f:=s5.fr 3;have ST:=hid (LInv.step LI.out R3.out p hsc RP.out z H hob)
                 clear z H hob hV' s5)
    obtain⟨w6,hw6⟩: ∃w6,w6=w5.setCell ⟨w.heap.size+1,3,none⟩ (.slice aa (acc.len+1) ab):=⟨_,rfl⟩
    rw[←hw6]at ST;rw[←hw6];clear hw6 s53 s5f X n0 n1 n2' n3 kr M3 MR MO LI;obtain⟨xs',hxs'⟩: ∃xs',xs'=xs++ [.int .i64 vk,.int .i64 vn,.string vt,.slice va sub.len vc]:=⟨_,rfl⟩
    obtain⟨v,y⟩: ∃v,v=acc.app (zv vk vn vt sub):=⟨_,rfl⟩
    have hal':v.len=acc.len+1:=by rw[y,VL.len_app];rfl
    have HAL:=hid hal';rw[←hxs', ←y]at ST;rw[←y]at t;clear hxs' y hal' RP;have h6:=ST.out.rds.at_;have pq:=fun W A=>xv R s q true W A;by_cases E:pk s q=44
    ·have K:=hid (t.out.trans (if_pos E))
     have hq2:q<s.size:=zh (by rw[E];decide)
     have PQ:=hid (show ∀W,RdAt W R s q true→Calls Tryz.prog 185 #[.pointer (some ⟨R,0,none⟩)] W fun e w'=>e= .returned (.int .u8 44)∧ ∃n,w'=W.drewN n from fun W A=>by
      have:=pq W A;rw[E]at this
      exact this)
     have tq:=fun W A=>xz R s q true 44 W A hs;have e1:zQ s q true 44=true:=by simp[zQ,hq2,E]
     have e2:zS s q true 44=q+1:=by unfold zS;rw[e1];rfl
     rw[e1,e2]at tq;have TQ:=hid tq;have O:=fun W A=>xz R s (q+1) true 32 W A hs;clear tq e1 e2 E pq;by_cases J:pk s (q+1)=32
     ·have HL4:=hid (K.out.trans (if_pos J))
      have hq3:q+1<s.size:=zh (by rw[J];decide);have e1:zQ s (q+1) true 32=true:=by simp[zQ,hq3,J]
      have e2:zS s (q+1) true 32=q+2:=by unfold zS;rw[e1];rfl
      rw[e1,e2]at O;have TQ1:=hid O;clear O e1 e2 J;go_wp2_with fail
      refine(PQ.out _ h6).mono ?_;rintro e w7 ⟨rfl,n7,rfl⟩;go_wp2_with fail
      refine(TQ.out _ (h6.drewN n7)).mono ?_;rintro e w8 ⟨rfl,r⟩;go_wp2_with fail
      refine(TQ1.out _ r.at_).mono ?_;rintro e w9 ⟨rfl,I⟩;have hr9':Rds w6 w9 R s (q+2) true:=(((Rds.of h6).drewN n7).trans r).trans I;have kr9:=I.at_.c2;have LI9:=hid (ST.out.ok hr9' p);clear r I hr9';go_wp2_with fail
      go_roundg k
      case measure=>omega
      case rel=>exact⟨.slice aa (acc.len+1) ab,q+2,v,xs',LI9.out,by omega,by omega,by omega,by have:=HAL.out;omega,HL4.out.symm.trans ae.out⟩
     ·have HL4:=hid (K.out.trans (if_neg J))
      have e1:zQ s (q+1) true 32=false:=by simp[zQ,J]
      have e2:zS s (q+1) true 32=q+1:=by unfold zS;rw[e1];rfl
      rw[e1,e2]at O;have TQ1:=hid O;clear O e1 e2 J;go_wp2_with fail
      refine(PQ.out _ h6).mono ?_;rintro e w7 ⟨rfl,n7,rfl⟩;go_wp2_with fail
      refine(TQ.out _ (h6.drewN n7)).mono ?_;rintro e w8 ⟨rfl,r⟩;go_wp2_with fail
      refine(TQ1.out _ r.at_).mono ?_;rintro e w9 ⟨rfl,I⟩;have hr9':Rds w6 w9 R s (q+1) false:=(((Rds.of h6).drewN n7).trans r).trans I;obtain⟨m,C,Q,mc,mz9⟩:=ST.out.move hr9' p;have kr9:=I.at_.c2;have k20:=m.c0;have k21:=m.c1;have k22:=m.c2;have k23:=m.c3;have k30:=C.c0;have k31:=C.c1;have k32:=C.c2;have X:=C.c3;have f20:=m.fr 0;have f21:=m.fr 1;have f22:=m.fr 2;have f23:=m.fr 3;have M:=hid m;have R9:=hid (ST.out.rds.trans hr9');clear r I hr9' m C Q mc;go_wp2_with fail
      refine jp Tryz.results192 w.heap.size rfl rfl (M.out.set4 _ _ _ _) ?_;rw[T.out, ←ae.out,HL4.out];exact⟨4,0,⟨#[]⟩,aa,acc.len+1,ab,rfl,R9.out.far4 (Nat.le_refl _) p _ _ _ _,fun e=>by cases e⟩
    ·have K:=hid (t.out.trans (if_neg E))
     have nq:=jN (x:=pk s q) 44 44 rfl E;obtain⟨c2,o⟩: ∃c:Nat,c=(pk s q).toNat:=⟨_,rfl⟩
     rw[←o]at nq pq;obtain⟨nq1,nq2⟩:=nq;have PQ:=hid pq
     have HT:Hid (∀W,RdAt W R s q true→Calls Tryz.prog 224 #[.pointer (some ⟨R,0,none⟩),.int .u8 125] W fun e w'=>e= .returned (.tuple #[])∧Rds W w' R s (zy s (k+1) j acc).1 (zy s (k+1) j acc).2.1):=by
      intro W A;have ht:=xz R s q true 125 W A hs;by_cases D:pk s q=125
      ·have hq2:q<s.size:=zh (by rw[D];decide)
       have e1:zQ s q true 125=true:=by simp[zQ,hq2,D]
       have e2:zS s q true 125=q+1:=by unfold zS;rw[e1];rfl
       rw[K.out,if_pos D];rw[e1,e2]at ht;exact ht
      ·have e1:zQ s q true 125=false:=by simp[zQ,D]
       have e2:zS s q true 125=q:=by unfold zS;rw[e1];rfl
       rw[K.out,if_neg D];rw[e1,e2]at ht;exact ht
     have HV:Hid ((zy s (k+1) j acc).2.2=v):=by
      show _=_
      rw[K.out];split<;>rfl
     clear pq o E;go_wp2_with fail
     refine(PQ.out _ h6).mono ?_;rintro e w7 ⟨rfl,n7,rfl⟩;go_wp2_with fail
     refine(HT.out _ (h6.drewN n7)).mono ?_;rintro e w8 ⟨rfl,r⟩;have hr8':Rds w6 w8 R s (zy s (k+1) j acc).1 (zy s (k+1) j acc).2.1:=((Rds.of h6).drewN n7).trans r;obtain⟨m,C,Q,mc,mz8⟩:=ST.out.move hr8' p;have k20:=m.c0;have k21:=m.c1;have k22:=m.c2;have k23:=m.c3;have k30:=C.c0;have k31:=C.c1;have k32:=C.c2;have X:=C.c3;have f20:=m.fr 0;have f21:=m.fr 1;have f22:=m.fr 2;have f23:=m.fr 3;have M:=hid m;have MO:=hid Q;have MC:=hid mc;have R8:=hid (ST.out.rds.trans hr8');have RL:=hid (KY (S:=fun b=>w.heap.size+2≤b∧b<w8.heap.size) Q (mc.keep (fun _ _=>rfl) (fun b hb=>⟨hb.1,hb.2.1⟩)) (fun g hg=>⟨kO Q g hg,Z5 Q g hg⟩));clear r hr8' m C Q mc;go_wp2_with fail
     refine jp Tryz.results192 w.heap.size rfl rfl (M.out.set4 _ _ _ _) ?_;rw[T.out, ←ae.out,HV.out];obtain⟨sa,sc,hse,hsl,hrp⟩:=RL.out;injection hse with hs1 hs2 hs3
     subst hs1;subst hs3;refine⟨4,0,⟨#[]⟩,aa,acc.len+1,ab,rfl,R8.out.far4 (Nat.le_refl _) p _ _ _ _,fun _=>⟨v,rfl,HAL.out.symm,hsl,?_⟩⟩;exact hrp.keep (fun b hb=>kW _ _ _ _ _ _ _ (by have:=hb.1;omega)) (fun b hb=>⟨by have:=hb.1;omega,by rw[ko];exact hb.2⟩)
theorem PVal.mk4{w f:World}{R:Nat}{s:ByteArray}{r:Nat×Bool×VL}{k n:Int}{t:ByteArray}(hr:Rds w f R s r.1 r.2.1)(e:R<w.heap.size)(hv:r.2.2=zv k n t .nil):
 PVal w R s r (.returned (.agg #[.int .i64 k,.int .i64 n,.string t,.slice none 0 0])) ((((f.setCell ⟨w.heap.size,0,none⟩ (.int .i64 k)).setCell ⟨w.heap.size,1,none⟩ (.int .i64 n)).setCell ⟨w.heap.size,2,none⟩ (.string t)).setCell ⟨w.heap.size,3,none⟩ (.slice none 0 0)):=
 ⟨k,n,t,none,0,0,rfl,hr.far4 (Nat.le_refl _) e _ _ _ _,fun _=>⟨.nil,hv,rfl,Nat.le_refl _,trivial⟩⟩
theorem qaU(f:Nat)(ih: ∀V,V<f→qad V):qad f:=by
 intro R s i w h hs hi hf;obtain⟨f,rfl⟩: ∃g,f=g+1:=⟨f-1,by omega⟩
 have B:=h.lt;obtain⟨O,n⟩: ∃O,O=w.alloc (.cells #[.int .i64 0,.int .i64 0,.string ⟨#[]⟩,.slice none 0 0] 28):=⟨_,rfl⟩
 have S:Rds w O R s i true:=by rw[n];exact(Rds.of h).alloc _
 have Q:StB O w.heap.size (.int .i64 0) (.int .i64 0) (.string ⟨#[]⟩) (.slice none 0 0):=by rw[n];exact StB.new w _ _ _ _
 have u:=hid S;have z:=hid Q;have C:some w.heap.size≠some R:=fun e=>by injection e with e;omega
 clear S Q;have N:=fun W H=>xv R s i true W H;obtain⟨x,hx⟩: ∃x,x=pk s i:=⟨_,rfl⟩
 rw[←hx]at N;have P:=hid N;clear N;by_cases m:pk s i=35
 ·have Y:i<s.size:=zh (by rw[m];decide)
  obtain rfl:x=35:=hx.trans m;have r:=hid (show qI s (f+1) i=((qW s (-2147483648) 2147483647 (i+1)).1,(qW s (-2147483648) 2147483647 (i+1)).2.1,zv 1 (qW s (-2147483648) 2147483647 (i+1)).2.2 ByteArray.empty .nil)by rw[qI,if_pos m]);have U:=hid (fun W H=>XN R s (i+1) (-2147483648) 2147483647 W H hs (by omega) (by omega) (by omega) (by omega));have ka:=u.out.at_.c1;have kf:=u.out.at_.fr 1;clear hx m;go_enter Tryz.func158,Tryz.ntmps158
  go_wp2_with fail
  rw[←n];clear n;refine(P.out _ u.out.at_).mono ?_;rintro e T ⟨rfl,q,rfl⟩;go_wp2_with fail
  refine(U.out _ ((u.out.drewN q).set1 (i+1)).at_).mono ?_;rintro e w2 ⟨rfl,k⟩;go_wp2_with fail
  refine(qgB _ _).mono ?_;rintro e w3 ⟨rfl,rfl⟩;have v:=hid ((((u.out.drewN q).set1 (i+1)).trans k).alloc (.cells #[.int .i64 1,.int .i64 (qW s (-2147483648) 2147483647 (i+1)).2.2,.string ⟨#[]⟩,.slice none 0 0] 28));have j:=hid ((((z.out.drewN q).far (p:=⟨R,1,none⟩) (by show w.heap.size≠R;omega) (.int .i64 (i+1:Nat))).only k.grown C).alloc (.cells #[.int .i64 1,.int .i64 (qW s (-2147483648) 2147483647 (i+1)).2.2,.string ⟨#[]⟩,.slice none 0 0] 28));clear k;have I:=j.out.c0;have J:=j.out.c1;have K:=j.out.c2;have L:=j.out.c3;have D:=j.out.fr 0;have E:=j.out.fr 1;have F:=j.out.fr 2;have G:=j.out.fr 3;go_wp2_with fail
  refine jp Tryz.results158 w.heap.size rfl rfl (j.out.set4 _ _ _ _) ?_;rw[r.out];exact PVal.mk4 v.out B rfl
 obtain⟨n35,_⟩:=jN (x:=x) 35 35 rfl (by rw[hx];exact m);have A:=fun W=>xK x _ rfl W;by_cases l:pk s i=45∨qt (pk s i)=true
 ·have r:=hid (show qI s (f+1) i=((qW s (-9223372036854775808) 9223372036854775807 i).1,(qW s (-9223372036854775808) 9223372036854775807 i).2.1,zv 0 (qW s (-9223372036854775808) 9223372036854775807 i).2.2 ByteArray.empty .nil)by rw[qI,if_neg m,if_pos l])
  have U:=hid (fun W H=>XN R s i (-9223372036854775808) 9223372036854775807 W H hs (by omega) (by omega) (by omega) (by omega));by_cases t:pk s i=45
  ·obtain rfl:x=45:=hx.trans t
   clear hx t l m A;go_enter Tryz.func158,Tryz.ntmps158
   go_wp2_with fail
   rw[←n];clear n;refine(P.out _ u.out.at_).mono ?_;rintro e T ⟨rfl,q,rfl⟩;go_wp2_with fail
   refine(U.out _ (u.out.at_.drewN q)).mono ?_;rintro e w2 ⟨rfl,k⟩;go_wp2_with fail
   refine(qbW _ _).mono ?_;rintro e w3 ⟨rfl,rfl⟩;have v:=hid (((u.out.drewN q).trans k).alloc (.cells #[.int .i64 0,.int .i64 (qW s (-9223372036854775808) 9223372036854775807 i).2.2,.string ⟨#[]⟩,.slice none 0 0] 28));have j:=hid (((z.out.drewN q).only k.grown C).alloc (.cells #[.int .i64 0,.int .i64 (qW s (-9223372036854775808) 9223372036854775807 i).2.2,.string ⟨#[]⟩,.slice none 0 0] 28));clear k;have I:=j.out.c0;have J:=j.out.c1;have K:=j.out.c2;have L:=j.out.c3;have D:=j.out.fr 0;have E:=j.out.fr 1;have F:=j.out.fr 2;have G:=j.out.fr 3;go_wp2_with fail
   refine jp Tryz.results158 w.heap.size rfl rfl (j.out.set4 _ _ _ _) ?_;rw[r.out];exact PVal.mk4 v.out B rfl
  ·have hd:qt x=true:=by rw[hx];exact l.resolve_left t
   obtain⟨ab,_⟩:=jN (x:=x) 45 45 rfl (by rw[hx];exact t);rw[hd]at A;have DG:=hid A;clear hx t l m A hd;go_enter Tryz.func158,Tryz.ntmps158
   go_wp2_with fail
   rw[←n];clear n;refine(P.out _ u.out.at_).mono ?_;rintro e T ⟨rfl,q,rfl⟩;go_wp2_with fail
   refine(DG.out _).mono ?_;rintro e w' ⟨rfl,rfl⟩;go_wp2_with fail
   refine(U.out _ (u.out.at_.drewN q)).mono ?_;rintro e w2 ⟨rfl,k⟩;go_wp2_with fail
   refine(qbW _ _).mono ?_;rintro e w3 ⟨rfl,rfl⟩;have v:=hid (((u.out.drewN q).trans k).alloc (.cells #[.int .i64 0,.int .i64 (qW s (-9223372036854775808) 9223372036854775807 i).2.2,.string ⟨#[]⟩,.slice none 0 0] 28));have j:=hid (((z.out.drewN q).only k.grown C).alloc (.cells #[.int .i64 0,.int .i64 (qW s (-9223372036854775808) 9223372036854775807 i).2.2,.string ⟨#[]⟩,.slice none 0 0] 28));clear k;have I:=j.out.c0;have J:=j.out.c1;have K:=j.out.c2;have L:=j.out.c3;have D:=j.out.fr 0;have E:=j.out.fr 1;have F:=j.out.fr 2;have G:=j.out.fr 3;go_wp2_with fail
   refine jp Tryz.results158 w.heap.size rfl rfl (j.out.set4 _ _ _ _) ?_;rw[r.out];exact PVal.mk4 v.out B rfl
 have t:pk s i≠45:=fun e=>l (.inl e)
 have hd:qt x=false:=by
  rw[hx]
  cases he:qt (pk s i)with
  |false=>rfl
  |true=>exact absurd (.inr he) l
 obtain⟨ab,_⟩:=jN (x:=x) 45 45 rfl (by rw[hx];exact t);rw[hd]at A;have DG:=hid A;clear A hd;by_cases y:pk s i=34
 ·obtain rfl:x=34:=hx.trans y
  have r:=hid (show qI s (f+1) i=((ze s i).1,(ze s i).2.1,zv 2 0 ⟨(ze s i).2.2.toArray⟩ .nil)by rw[qI,if_neg m,if_neg l,if_pos y]);have SC:=hid (fun W H=>qhb R s i W H hs y);clear hx y l m t;go_enter Tryz.func158,Tryz.ntmps158
  go_wp2_with fail
  rw[←n];clear n;refine(P.out _ u.out.at_).mono ?_;rintro e T ⟨rfl,q,rfl⟩;go_wp2_with fail
  refine(DG.out _).mono ?_;rintro e w' ⟨rfl,rfl⟩;go_wp2_with fail
  refine(SC.out _ (u.out.at_.drewN q)).mono ?_;rintro e w2 ⟨rfl,k⟩;go_wp2_with fail
  refine(qgC _ _).mono ?_;rintro e w3 ⟨rfl,rfl⟩;have v:=hid (((u.out.drewN q).trans k).alloc (.cells #[.int .i64 2,.int .i64 0,.string ⟨(ze s i).2.2.toArray⟩,.slice none 0 0] 28));have j:=hid (((z.out.drewN q).only k.grown C).alloc (.cells #[.int .i64 2,.int .i64 0,.string ⟨(ze s i).2.2.toArray⟩,.slice none 0 0] 28));clear k;have I:=j.out.c0;have J:=j.out.c1;have K:=j.out.c2;have L:=j.out.c3;have D:=j.out.fr 0;have E:=j.out.fr 1;have F:=j.out.fr 2;have G:=j.out.fr 3;go_wp2_with fail
  refine jp Tryz.results158 w.heap.size rfl rfl (j.out.set4 _ _ _ _) ?_;rw[r.out];exact PVal.mk4 v.out B rfl
 obtain⟨n34,_⟩:=jN (x:=x) 34 34 rfl (by rw[hx];exact y);by_cases o:pk s i=123
 ·obtain rfl:x=123:=hx.trans o
  have Y:i<s.size:=zh (by rw[o];decide);have r:=hid (show qI s (f+1) i=Jp s f i by rw[qI,if_neg m,if_neg l,if_neg y,if_pos o];rfl);have LC:=hid (fun W H=>qfI f (fun V hf'=>ih V (by omega)) R s i W H hs o (by omega));clear hx y l m t o ih;go_enter Tryz.func158,Tryz.ntmps158
  go_wp2_with fail
  rw[←n];clear n;refine(P.out _ u.out.at_).mono ?_;rintro e T ⟨rfl,q,rfl⟩;go_wp2_with fail
  refine(DG.out _).mono ?_;rintro e w' ⟨rfl,rfl⟩;go_wp2_with fail
  refine(LC.out _ (u.out.at_.drewN q)).mono ?_;rintro e w2 aa;obtain⟨vk,vn,vt,va,vl,vc,rfl,k,M⟩:=aa;have X:=hid ((u.out.drewN q).trans k);have hgz:O.heap.size≤w2.heap.size:=k.grown.size;have j:=hid ((z.out.drewN q).only k.grown C);have hbz:=z.out.lt;have HV:=hid M;clear k M;have I:=j.out.c0;have J:=j.out.c1;have K:=j.out.c2;have L:=j.out.c3;have D:=j.out.fr 0;have E:=j.out.fr 1;have F:=j.out.fr 2;have G:=j.out.fr 3;go_wp2_with fail
  refine jp Tryz.results158 w.heap.size rfl rfl (j.out.set4 _ _ _ _) ?_;rw[r.out];refine⟨vk,vn,vt,va,vl,vc,rfl,X.out.far4 (Nat.le_refl _) B _ _ _ _,fun Z=> ?_⟩;obtain⟨sub,h1,h2,h3,h4⟩:=HV.out Z;refine⟨sub,h1,h2,h3,h4.keep (fun b hb=>kW _ _ _ _ _ _ _ (by have:O.heap.size≤b:=hb.1;omega)) (fun b hb=>⟨by have:O.heap.size≤b:=hb.1;omega,by rw[ko];exact hb.2⟩)⟩
 obtain⟨n123,_⟩:=jN (x:=x) 123 123 rfl (by rw[hx];exact o);have r:=hid (show qI s (f+1) i=((jk s i).1,(jk s i).2.1,zv 3 (jk s i).2.2 ByteArray.empty .nil)by rw[qI,if_neg m,if_neg l,if_neg y,if_neg o]);have CC:=hid (fun W H=>qfp R s i W H hs hi);clear hx y l m t o;go_enter Tryz.func158,Tryz.ntmps158
 go_wp2_with fail
 rw[←n];clear n;refine(P.out _ u.out.at_).mono ?_;rintro e T ⟨rfl,q,rfl⟩;go_wp2_with fail
 refine(DG.out _).mono ?_;rintro e w' ⟨rfl,rfl⟩;go_wp2_with fail
 refine(CC.out _ (u.out.at_.drewN q)).mono ?_;rintro e w2 ⟨rfl,k⟩;go_wp2_with fail
 refine(qgA _ _).mono ?_;rintro e w3 ⟨rfl,rfl⟩;have v:=hid (((u.out.drewN q).trans k).alloc (.cells #[.int .i64 3,.int .i64 (jk s i).2.2,.string ⟨#[]⟩,.slice none 0 0] 28));have j:=hid (((z.out.drewN q).only k.grown C).alloc (.cells #[.int .i64 3,.int .i64 (jk s i).2.2,.string ⟨#[]⟩,.slice none 0 0] 28));clear k;have I:=j.out.c0;have J:=j.out.c1;have K:=j.out.c2;have L:=j.out.c3;have D:=j.out.fr 0;have E:=j.out.fr 1;have F:=j.out.fr 2;have G:=j.out.fr 3;go_wp2_with fail
 refine jp Tryz.results158 w.heap.size rfl rfl (j.out.set4 _ _ _ _) ?_;rw[r.out];exact PVal.mk4 v.out B rfl
theorem qfd(f:Nat):qad f:=by
 induction f using Nat.strongRecOn with
 |_ f e=>exact qaU f e
end Go.Proofs.YtggngahmafbihaaGreatDoor
