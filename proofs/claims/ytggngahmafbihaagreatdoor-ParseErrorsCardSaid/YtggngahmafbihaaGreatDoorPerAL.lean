/- Contracts, and the plain mathematics beneath. -/
import Derived.Deep.RegionLaw
import Derived.Deep.Cut
import Derived.Deep.CutBlock
import Derived.Deep.DeepCutAuto
import Derived.Shelf.Abstract
import Derived.Test.YtggngahmafbihaaGreatDoorPerAG
set_option linter.unusedVariables false
set_option linter.unusedSimpArgs false
set_option maxRecDepth 100000
set_option maxHeartbeats 8000000
namespace Go.Proofs.YtggngahmafbihaaGreatDoor
open Go.RowKit Go.Lib
section
theorem ql{l:Func}{p:Tmp}{Q:Ending→World→Prop}{j:Act}{w:World}(hr:l.results= #[.cell p 31])(g:Nat)(hp:j.tmps.getD p undef= .pointer (some ⟨g,0,none⟩))(hd:j.defers= [])
 {a b c d e f h i:Value} (k:NdB w g a b c d e f h i) (r:Q (.returned (.agg #[a,b,c,d,e,f,h,i])) w):bodyPost Tryz.prog l Q .ret j w:=by
 refine bodyPost_ret (v:= .agg #[a,b,c,d,e,f,h,i]) ?_ hd r;have m:=k.c0;have c1:=k.c1;have c2:=k.c2;have c3:=k.c3;have c4:=k.c4;have c5:=k.c5;have n:=k.c6;have q:=k.c7;have hp':(j.tmps[p]?).getD undef= .pointer (some ⟨g,0,none⟩):=by simpa using hp
 simp[results,hr,hp',go_sem,m,c1,c2,c3,c4,c5,n,q]
def PNd(X:PCtx)(D:Nat→Prop)(w:World)(p:PS)(f:Nat)(r:NL×PS)(e:Ending)(w':World):Prop:=
 ∃(op ln:Int)(s:ByteArray)(k n:Int)(t:ByteArray)(va:Option Addr)(vc:Nat)(V:Value)(sub:NL),r.1=nd op ln s k n t sub∧e= .returned (.agg (qN op ln s k n t va vc V))∧
  Mvd w w' X r.2∧OwnN w' D V sub∧qQ r.1∧sub.len≤2*f+10∧r.2.deep=p.deep
def PNl(X:PCtx)(D:Nat→Prop)(w:World)(p:PS)(f:Nat)(r:NL×PS)(e:Ending)(w':World):Prop:=
 ∃(V:Value),e= .returned V∧Mvd w w' X r.2∧OwnN w' D V r.1∧qQ r.1∧r.1.len≤2*f+2∧r.2.deep=p.deep
def zP(X:PCtx)(b:Nat)(args:Array Value)(c:Req)(f:Nat):Prop:= ∀(w:World)(p:PS)(r:NL×PS),PSt w X p→0≤p.deep→p.deep≤160→qa X.l f c p=some r→
 Calls Tryz.prog b (#[.pointer (some ⟨X.P,0,none⟩)]++args) w (PNd X (fun k=>w.heap.size≤k) w p f r)
def ZP(X:PCtx)(b:Nat)(args:Array Value)(c:Req)(f:Nat):Prop:= ∀(w:World)(p:PS)(r:NL×PS),PSt w X p→0≤p.deep→p.deep≤160→qa X.l f c p=some r→
 Calls Tryz.prog b (#[.pointer (some ⟨X.P,0,none⟩)]++args) w (PNl X (fun k=>w.heap.size≤k) w p f r)
def qb1(X:PCtx)(f:Nat):Prop:= ∀(op ln:Int)(s:ByteArray)(k n:Int)(t:ByteArray)(va:Option Addr)(vc:Nat)(V:Value)(sub:NL)(D:Nat→Prop)(w:World)(p:PS)(r:NL×PS),PSt w X p→0≤p.deep→p.deep≤160→
 OwnN w D V sub→(∀k,D k→X.P<k)→(∀k,w.heap.size≤k→D k)→qQ (nd op ln s k n t sub)→sub.len≤2*f+10→qa X.l f (.behind (nd op ln s k n t sub)) p=some r→
 Calls Tryz.prog 173 #[.pointer (some ⟨X.P,0,none⟩),.agg (qN op ln s k n t va vc V)] w (PNd X D w p f r)
structure EC (X:PCtx) (F:Nat):Prop where
 expr: ∀f,f≤F→zP X 26 #[] .expr f
 cond: ∀f,f≤F→zP X 56 #[] .cond f
 two: ∀f,f≤F→ ∀k:Nat,k≤5→zP X 101 #[.int .i64 k] (.two k) f
 one: ∀f,f≤F→zP X 146 #[] .one f
 part: ∀f,f≤F→zP X 203 #[] .part f
 behind: ∀f,f≤F→qb1 X f
 items: ∀f,f≤F→ ∀e:ByteArray,ZP X 204 #[.string e] (.items e.data.toList) f
 row: ∀f,f≤F→ZP X 231 #[] (.row .nil) f
 codes: ∀f,f≤F→zP X 111 #[] .codes f
 first: ∀f,f≤F→zP X 174 #[] .first f
 within: ∀f,f≤F→ ∀e:ByteArray,zP X 109 #[.string e] (.within e.data.toList) f
 caught: ∀f,f≤F→ ∀ln:Int,zP X 205 #[.int .i64 ln] (.caught ln) f
@[simp] theorem failS_deep (l : List Tok) (p : PS) : (zd l p).deep = p.deep := by unfold zd; split <;> rfl
@[simp] theorem nextS_deep (p : PS) : (qb p).deep = p.deep := rfl
@[simp] theorem mustS_deep (l : List Tok) (p : PS) (s : List UInt8) : (qf l p s).deep = p.deep := by unfold qf; split <;> simp
@[simp] theorem nameS_deep (l : List Tok) (p : PS) : (qE l p).2.deep = p.deep := by
 unfold qE;split
 ·split<;>simp
 ·simp
@[simp] theorem downS_deep (p : PS) : (qh p).deep = p.deep + 1 := by unfold qh; split <;> rfl
@[simp] theorem upS_deep (p : PS) : (qu p).deep = p.deep - 1 := rfl
theorem js{p:PS}(h:(qh p).err.isNone=true):p.deep+1≤160:=by
 unfold qh at h;split at h
 ·cases h
 ·rename_i hc
  have: ¬160<p.deep+1:=fun hd=>hc ⟨hd,h⟩;omega
theorem qaB{w w':World}{P g:Nat}(hg:w.grownBy w' (some P))(h:g<w.heap.size)(b:P≠g):w'.heap[g]?=w.heap[g]?:=hg.block g h (fun e=>by injection e with e;exact b e.symm)
theorem NdB.grown{w w':World}{P g:Nat}{a b c d e f h i:Value}(H:NdB w g a b c d e f h i)(hg:w.grownBy w' (some P))(j:P<g):NdB w' g a b c d e f h i:=(qaB hg H.lt (by omega)).trans H
theorem NdB.far{w:World}{g:Nat}{a b c d e f h i:Value}(H:NdB w g a b c d e f h i){p:Addr}(hp:g≠p.block)(u:Value):NdB (w.setCell p u) g a b c d e f h i:=(Below.heap_setCell _ _ _ _ hp).trans H
theorem NdB.set0{w:World}{g:Nat}{a b c d e f h i:Value}(H:NdB w g a b c d e f h i)(u:Value):NdB (w.setCell ⟨g,0,none⟩ u) g u b c d e f h i:=by unfold NdB at H⊢;simp[World.setCell,Array.getElem?_modify,H]
theorem NdB.set1{w:World}{g:Nat}{a b c d e f h i:Value}(H:NdB w g a b c d e f h i)(u:Value):NdB (w.setCell ⟨g,1,none⟩ u) g a u c d e f h i:=by unfold NdB at H⊢;simp[World.setCell,Array.getElem?_modify,H]
theorem NdB.set2{w:World}{g:Nat}{a b c d e f h i:Value}(H:NdB w g a b c d e f h i)(u:Value):NdB (w.setCell ⟨g,2,none⟩ u) g a b u d e f h i:=by unfold NdB at H⊢;simp[World.setCell,Array.getElem?_modify,H]
theorem NdB.set7{w:World}{g:Nat}{a b c d e f h i:Value}(H:NdB w g a b c d e f h i)(u:Value):NdB (w.setCell ⟨g,7,none⟩ u) g a b c d e f h u:=by unfold NdB at H⊢;simp[World.setCell,Array.getElem?_modify,H]
theorem NdB.app{w w':World}{V:Value}{g:Nat}{a b c d e f h i:Value}(H:NdB w g a b c d e f h i)(hg:w.grownBy w' V.ownBlock)(j:V.ownBlock≠some g):NdB w' g a b c d e f h i:=(hg.block g H.lt (fun e=>j e.symm)).trans H
def zN(w:World)(g:Nat):Prop:=NdB w g (.int .i64 0) (.int .i64 0) (.string ⟨#[]⟩) (.int .i64 0) (.int .i64 0) (.string ⟨#[]⟩) (.slice none 0 0) (.slice none 0 0)
section
variable {P : Program} {ops : Array Oper} {o : Oper} {a : Act} {K : Act → World → Prop} {Q : Exit → Act → World → Prop} {E : Prop}
theorem qy{w:World}(k:o.guard=none)(s x:Operand)(T:TypeId)
 (r:o.op= .call {callee:= .builtin .append,args:= #[s,x],argTypes:= #[T,T]}) {i:TypeInfo} {z:Value}
 (t:P.underlying T=some (.slice 31)) (hi:P.info? 31=some i) (hz:i.zero=some z) (d:i.size=8) (j:i.bytes=112) (n:z.cells.size=8)
 {D:Nat→Prop} {V:Value} {l b:NL} (hs:a.eval s=V) (q:OwnN w D V l) {A:Option Addr} {c m:Nat} (hx:a.eval x= .slice A m c) (hm:m=b.len) (hb:RpN w (SN w D V) b A) (hA:A=none→c=0) (hl:l.len+b.len≤1000000000000) (hn:D w.heap.size)
 (h: ∀e f w',OwnN w' D (.slice e (l.len+b.len) f) (l.app b)→w.grownBy w' V.ownBlock→((Value.slice e (l.len+b.len) f).ownBlock=V.ownBlock∨(Value.slice e (l.len+b.len) f).ownBlock=some w.heap.size)→K (a.put o.dst (.slice e (l.len+b.len) f)) w'):
 if Region.wanted o (yielded ops a.tmps)=true then Oper.wp P o a w K Q else E:=by
 have u:Region.wanted o (yielded ops a.tmps)=true:=by simp[Region.wanted,k]
 rw[if_pos u];subst hm;obtain⟨e,f,w',g,h2,h3,h4⟩:=QN (ty:=o.type) w t hi hz d j n q hb hA hl hn;unfold Oper.wp;simp[execOp,r,resolve,invoke,builtin,hs,hx,g,Result.andThen];exact h e f w' h2 h3 h4
theorem zX{w:World}{rest:List Oper}(k:o.guard=none)(s x:Operand)(T:TypeId)
 (t:o.op= .call {callee:= .builtin .append,args:= #[s,x],argTypes:= #[T,T]}) {i:TypeInfo} {z:Value}
 (u:P.underlying T=some (.slice 31)) (hi:P.info? 31=some i) (hz:i.zero=some z) (d:i.size=8) (j:i.bytes=112) (n:z.cells.size=8)
 {D:Nat→Prop} {V:Value} {l b:NL} (hs:a.eval s=V) (r:OwnN w D V l) {A:Option Addr} {c m:Nat} (hx:a.eval x= .slice A m c) (hm:m=b.len) (hb:RpN w (SN w D V) b A) (hA:A=none→c=0) (hl:l.len+b.len≤1000000000000) (hn:D w.heap.size)
 (h: ∀e f w',OwnN w' D (.slice e (l.len+b.len) f) (l.app b)→w.grownBy w' V.ownBlock→((Value.slice e (l.len+b.len) f).ownBlock=V.ownBlock∨(Value.slice e (l.len+b.len) f).ownBlock=some w.heap.size)→wpList P ops Q rest (a.put o.dst (.slice e (l.len+b.len) f)) w'):
 wpList P ops Q (o::rest) a w:=by
 refine wpList_plain k fun K q=> ?_;subst hm;obtain⟨e,f,w',g,h2,h3,h4⟩:=QN (ty:=o.type) w u hi hz d j n r hb hA hl hn;unfold Oper.wp;simp[execOp,t,resolve,invoke,builtin,hs,hx,g,Result.andThen];exact q _ _ (h e f w' h2 h3 h4)
end
theorem Zn{w:World}{D b:Nat→Prop}{V d:Value}{sub:NL}(hx:OwnN w b d sub)(op ln:Int)(s:ByteArray)(k n:Int)(t:ByteArray)(va:Option Addr)(vc:Nat)(f:b w.heap.size)(i: ∀k,b k→D k)(j: ∀g,V.ownBlock=some g→ ¬b g):
 RpN (w.alloc (.cells (qN op ln s k n t va vc d) 31)) (SN (w.alloc (.cells (qN op ln s k n t va vc d) 31)) D V) (nd op ln s k n t sub) (some ⟨w.heap.size,0,none⟩):=by
 have h:=OwnN.lit (hx.row1 op ln s k n t va vc) f (by show 1≤_;decide);obtain⟨A,c,e,_,_,hr⟩:=h.kids;simp only[Value.slice.injEq]at e;rw[←e.1]at hr;exact hr.sn (fun k hk _=>i k hk) j
theorem qv(w:World)(g k:Nat)(u:Value):w.grownBy (w.setCell ⟨g,k,none⟩ u) (some g):=qJ (jo w _) (.inl rfl) u
theorem qe(w:World)(g:Nat)(a b c d e f h i:Value):
 w.grownBy ((((((((w.setCell ⟨g,0,none⟩ a).setCell ⟨g,1,none⟩ b).setCell ⟨g,2,none⟩ c).setCell ⟨g,3,none⟩ d).setCell ⟨g,4,none⟩ e).setCell ⟨g,5,none⟩ f).setCell ⟨g,6,none⟩ h).setCell ⟨g,7,none⟩ i) (some g):=by
 refine qJ ?_ (.inl rfl) i;refine qJ ?_ (.inl rfl) h;refine qJ ?_ (.inl rfl) f;refine qJ ?_ (.inl rfl) e;refine qJ ?_ (.inl rfl) d;refine qJ ?_ (.inl rfl) c;refine qJ ?_ (.inl rfl) b;exact qv w g 0 a
theorem Mvd.node{a w w':World}{X:PCtx}{p:PS}{g:Nat}{f c1 c2 c3 c4 c5 i j:Value}(h:Mvd a w X p)(c:NdB w g f c1 c2 c3 c4 c5 i j)(m:X.P<g)(hg:a.heap.size≤g)(hb:w.grownBy w' (some g)):Mvd a w' X p:=by
 refine⟨h.st.keep (fun b l=>hb.block b (by have:=h.st.lt;omega) (fun e=>by injection e with e;omega)) (fun A line _ hA=>hb.block A (zV hA) (fun e=> ?_)) hb.size,⟨hb.os.trans h.grown.os,hb.tape.trans h.grown.tape,hb.output.trans h.grown.output,Nat.le_trans h.grown.size hb.size,fun k hk d=>(hb.block k (Nat.lt_of_lt_of_le hk h.grown.size) (fun e=>by injection e with e;omega)).trans (h.grown.block k hk d)⟩⟩;injection e with e
 subst e;unfold NdB at c;rw[hA]at c;injection c with c
 injection c with _ c _
 exact absurd c (by decide)
end
section
theorem PNd.mk{X:PCtx}{D:Nat→Prop}{w w':World}{p:PS}{f:Nat}{r:NL×PS}(op ln:Int)(s:ByteArray)(k n:Int)(t:ByteArray)(va:Option Addr)(vc:Nat)(V:Value)(sub:NL)(q:PS)(hr:r=(nd op ln s k n t sub,q))(hm:Mvd w w' X q)(b:OwnN w' D V sub)(hk:qQ (nd op ln s k n t sub))(hl:sub.len≤2*f+10)(hd:q.deep=p.deep):
 PNd X D w p f r (.returned (.agg #[.int .i64 op,.int .i64 ln,.string s,.int .i64 k,.int .i64 n,.string t,.slice va 0 vc,V])) w':=by
 subst hr;exact⟨op,ln,s,k,n,t,va,vc,V,sub,rfl,rfl,hm,b,hk,hl,hd⟩
theorem zN.new(w:World):zN (w.alloc (.cells #[.int .i64 0,.int .i64 0,.string ⟨#[]⟩,.int .i64 0,.int .i64 0,.string ⟨#[]⟩,.slice none 0 0,.slice none 0 0] 31)) w.heap.size:=NdB.new _ _ _ _ _ _ _ _ _
theorem zN.new1(w:World)(o:Obj):zN ((w.alloc o).alloc (.cells #[.int .i64 0,.int .i64 0,.string ⟨#[]⟩,.int .i64 0,.int .i64 0,.string ⟨#[]⟩,.slice none 0 0,.slice none 0 0] 31)) (w.heap.size+1):=by
 have:=zN.new (w.alloc o);rw[World.size_alloc]at this;exact this
theorem qX{op ln:Int}{s:ByteArray}{k n:Int}{t:ByteArray}{sub:NL}(h:qQ sub)(b:op=20∨op=26→sub.len≠0):qQ (nd op ln s k n t sub):=⟨b,h,trivial⟩
theorem zr{op ln:Int}{s:ByteArray}{k n:Int}{t:ByteArray}(b:op≠20)(c:op≠26):qQ (nd op ln s k n t .nil):=qX trivial (fun h=>by rcases h with h|h<;>contradiction)
theorem qg(op ln:Int)(s:ByteArray)(k n:Int)(t:ByteArray)(sub:NL):(nd op ln s k n t sub).len=1:=rfl
section
variable {X : PCtx} {p : PS} {s : ByteArray} {w : World} {L : List UInt8}
theorem za(h:PSt w X p)(b:L=s.data.toList)(hb:qj X.l p L=true):
 Calls Tryz.prog 65 #[.pointer (some ⟨X.P,0,none⟩),.string s] w fun e w'=>e= .returned (.bool true)∧Mvd w w' X (qb p):=by
 have:=Xg X p s w h;rw[←b,hb]at this;exact this
theorem qr(h:PSt w X p)(b:L=s.data.toList)(hb:qj X.l p L=false):
 Calls Tryz.prog 65 #[.pointer (some ⟨X.P,0,none⟩),.string s] w fun e w'=>e= .returned (.bool false)∧Mvd w w' X p:=by
 have:=Xg X p s w h;rw[←b,hb]at this;exact this
theorem QF(h:PSt w X p)(b:L=s.data.toList)(hb:qj X.l p L=true):
 Calls Tryz.prog 57 #[.pointer (some ⟨X.P,0,none⟩),.string s] w fun e w'=>e= .returned (.bool true)∧Mvd w w' X p:=by
 have:=Jy X p s w h;rw[←b,hb]at this;exact this.mono fun e w' ⟨h1,h2⟩=>⟨h1,(Mvd.of h).below h2⟩
theorem ZE(h:PSt w X p)(b:L=s.data.toList)(hb:qj X.l p L=false):
 Calls Tryz.prog 57 #[.pointer (some ⟨X.P,0,none⟩),.string s] w fun e w'=>e= .returned (.bool false)∧Mvd w w' X p:=by
 have:=Jy X p s w h;rw[←b,hb]at this;exact this.mono fun e w' ⟨h1,h2⟩=>⟨h1,(Mvd.of h).below h2⟩
theorem jJ(h:PSt w X p)(h0:0≤p.deep)(h1:p.deep≤160)(hb:(qh p).err.isNone=true):
 Calls Tryz.prog 59 #[.pointer (some ⟨X.P,0,none⟩)] w fun e w'=>e= .returned (.bool true)∧Mvd w w' X (qh p):=by
 have:=Xy X p w h h0 (by omega);rw[hb]at this;exact this
theorem xr(h:PSt w X p)(h0:0≤p.deep)(h1:p.deep≤160)(hb:(qh p).err.isNone=false):
 Calls Tryz.prog 59 #[.pointer (some ⟨X.P,0,none⟩)] w fun e w'=>e= .returned (.bool false)∧Mvd w w' X (qh p):=by
 have:=Xy X p w h h0 (by omega);rw[hb]at this;exact this
theorem qT(h:PSt w X p)(b:L=s.data.toList):
 Calls Tryz.prog 66 #[.pointer (some ⟨X.P,0,none⟩),.string s] w fun e w'=>e= .returned (.tuple #[])∧Mvd w w' X (qf X.l p L):=by
 rw[b];exact qfK X p s w h
theorem qO(h:PSt w X p):
 Calls Tryz.prog 64 #[.pointer (some ⟨X.P,0,none⟩)] w fun e w'=>e= .returned (.int .i64 (qd X.l p))∧Mvd w w' X p:=
 (qeo X p w h).mono fun e w' ⟨h1,h2⟩=>⟨h1,(Mvd.of h).below h2⟩
end
def DG(b x:Nat):Nat→Prop:=fun k=>b≤k∧k≠x
theorem DG.not{b x P:Nat}(h:P<b): ¬DG b x P:=fun hd=>absurd hd.1 (by omega)
theorem qd2{a W f:World}{X:PCtx}{p:PS}{d c:Nat}{V g i c1 c2 c3 c4 c5 j:Value}{l b:NL}{o:Obj}(hm:Mvd a W X p)(r:NdB W c i c1 c2 c3 c4 c5 j V)(q:OwnN W (DG d c) V l)(t:X.P<d)(ha:a.heap.size≤d)(m:X.P<c)(n:a.heap.size≤c)
 (h:OwnN f (DG d c) g b) (hg:(W.alloc o).grownBy f V.ownBlock):
 Mvd a (f.setCell ⟨c,7,none⟩ g) X p∧NdB (f.setCell ⟨c,7,none⟩ g) c i c1 c2 c3 c4 c5 j g∧OwnN (f.setCell ⟨c,7,none⟩ g) (DG d c) g b∧W.heap.size+1≤(f.setCell ⟨c,7,none⟩ g).heap.size:=by
 have hb:Below W.heap.size W (W.alloc o):=(Below.refl _ _).alloc (Nat.le_refl _) _;have h1:Mvd a f X p:=(hm.alloc o).app (q.below hb) (fun k hk=>Nat.lt_of_lt_of_le t hk.1) (fun k hk=>Nat.le_trans ha hk.1) hg;have h2:NdB f c i c1 c2 c3 c4 c5 j V:=(r.alloc o).app hg (fun e=>(q.ge c e).1.2 rfl);have hz:W.heap.size+1≤f.heap.size:=by have:=hg.size;simp at this;omega
 exact⟨h1.node h2 m n (qv _ _ _ _),h2.set7 g,h.keep (fun k hk _=>Below.heap_setCell _ _ _ _ (by show k≠c;exact hk.2)) (by rw[ji];exact Nat.le_refl _),by rw[ji];exact hz⟩
theorem qaY{W i:World}{c b g:Nat}{V j f c1 c2 c3 c4 c5 h c7:Value}{l:NL}{o:Obj}(k:NdB W g f c1 c2 c3 c4 c5 h c7)(m:OwnN W (DG c b) V l)(n:g<c)(d:g≠b)(hg:(W.alloc o).grownBy i V.ownBlock):NdB (i.setCell ⟨b,7,none⟩ j) g f c1 c2 c3 c4 c5 h c7:=
 ((k.alloc o).app hg (fun e=>absurd (m.ge g e).1.1 (by omega))).far (by show g≠b;exact d) _
theorem jH{W:World}{c b B:Nat}{V d:Value}{l sub:NL}(f:OwnN W (DG c b) V l)(hx:OwnN W (fun k=>B≤k) d sub)(op ln:Int)(s:ByteArray)(k n:Int)(t:ByteArray)(va:Option Addr)(vc:Nat)(i:c≤B)(ha:b<B)(h:B≤W.heap.size)(e: ∀g,V.ownBlock=some g→g<B):
 OwnN (W.alloc (.cells (qN op ln s k n t va vc d) 31)) (DG c b) V l∧
 RpN (W.alloc (.cells (qN op ln s k n t va vc d) 31)) (SN (W.alloc (.cells (qN op ln s k n t va vc d) 31)) (DG c b) V) (nd op ln s k n t sub) (some ⟨W.heap.size,0,none⟩):=
 ⟨f.below ((Below.refl _ _).alloc (Nat.le_refl _) _),Zn hx op ln s k n t va vc h (fun k (hk:B≤k)=>⟨by omega,by omega⟩) (fun g hg (hk:B≤g)=>by have:=e g hg;omega)⟩
theorem qC{W W':World}{b x g w0:Nat}{V:Value}{l:NL}(h:OwnN W (DG b x) V l)(hb:g<b)(f:W.grownBy W' (some g))(c:w0≤b):OwnN W' (fun k=>w0≤k) V l:=
 (h.keep (fun k hk d=>f.block k d (fun e=>by injection e with e;have:=hk.1;omega)) f.size).wide (fun k hk _=>Nat.le_trans c hk.1)
theorem xN{a W W':World}{X:PCtx}{p:PS}{D:Nat→Prop}{V:Value}{sub:NL}(hm:Mvd a W X p)(e:OwnN W D V sub)(op ln:Int)(s:ByteArray)(k n:Int)(t:ByteArray)(va:Option Addr)(vc:Nat)(op2 ln2:Int)(c:D W.heap.size)
 (d:W'=(W.alloc (.cells (qN op ln s k n t va vc V) 31)).alloc (.cells #[.int .i64 op2,.int .i64 ln2,.string ⟨#[]⟩,.int .i64 0,.int .i64 0,.string ⟨#[]⟩,.slice none 0 0,.slice (some ⟨W.heap.size,0,none⟩) 1 1] 31)):
 Mvd a W' X p∧NdB W' (W.heap.size+1) (.int .i64 op2) (.int .i64 ln2) (.string ⟨#[]⟩) (.int .i64 0) (.int .i64 0) (.string ⟨#[]⟩) (.slice none 0 0) (.slice (some ⟨W.heap.size,0,none⟩) 1 1)∧
  OwnN W' D (.slice (some ⟨W.heap.size,0,none⟩) 1 1) (nd op ln s k n t sub)∧W'.heap.size=W.heap.size+2∧Below W.heap.size W W':=by
 have hl:=OwnN.lit (e.row1 op ln s k n t va vc) c (by show 1≤_;decide);have b:Below W.heap.size W (W.alloc (.cells (qN op ln s k n t va vc V) 31)):=(Below.refl _ _).alloc (Nat.le_refl _) _;have hn:=NdB.new (W.alloc (.cells (qN op ln s k n t va vc V) 31)) (.int .i64 op2) (.int .i64 ln2) (.string ⟨#[]⟩) (.int .i64 0) (.int .i64 0) (.string ⟨#[]⟩) (.slice none 0 0) (.slice (some ⟨W.heap.size,0,none⟩) 1 1);rw[World.size_alloc]at hn;subst d;exact⟨(hm.alloc _).alloc _,hn,hl.below ((Below.refl _ _).alloc (Nat.le_refl _) _),by simp,b.alloc (by simp) _⟩
def zC(X:PCtx)(a h:World)(q:PS)(c b:Nat)(n c1 c2 c3 c4 c5 r:Value)(l x:NL)(m:Nat)(d:Int)(e:World):Prop:=
 ∃f,Mvd a e X q∧q.deep=d∧NdB e b n c1 c2 c3 c4 c5 r f∧OwnN e (DG c b) f (l.app x)∧x.len≤m∧qQ x∧h.heap.size<e.heap.size∧
  ∀(g:Nat)(i d1 d2 d3 d4 d5 j k:Value),g<c→g≠b→X.P<g→NdB h g i d1 d2 d3 d4 d5 j k→NdB e g i d1 d2 d3 d4 d5 j k
theorem jq{a u W t:World}{X:PCtx}{q:PS}{c b m:Nat}{V f v c1 c2 c3 c4 c5 y:Value}{l x:NL}{o:Obj}(A:u.grownBy W (some X.P))(hm:Mvd a W X q)(B:NdB W b v c1 c2 c3 c4 c5 y V)(z:OwnN W (DG c b) V l)(C:X.P<c)(ha:a.heap.size≤c)(i:X.P<b)(j:a.heap.size≤b)
 (e:OwnN t (DG c b) f (l.app x)) (hg:(W.alloc o).grownBy t V.ownBlock) (hx:x.len≤m) (hk:qQ x) {d:Int} (hd:q.deep=d):zC X a u q c b v c1 c2 c3 c4 c5 y l x m d (t.setCell ⟨b,7,none⟩ f):=by
 obtain⟨h1,h2,h3,h4⟩:=qd2 hm B z C ha i j e hg;have hz:=A.size;exact⟨f,h1,hd,h2,h3,hx,hk,by omega,fun g D d1 d2 d3 d4 d5 F G r n k h=>qaY (h.grown A k) z r n hg⟩
theorem NdB.apart{w w':World}{g k:Nat}{a b c d e f h i:Value}(H:NdB w g a b c d e f h i)(hg:w.grownBy w' (some k))(j:g≠k):NdB w' g a b c d e f h i:=(hg.block g H.lt (fun e=>by injection e with e;exact j e)).trans H
theorem OwnN.apart{w w':World}{b x g:Nat}{V:Value}{l:NL}(h:OwnN w (DG b x) V l)(hg:w.grownBy w' (some g))(d:g<b∨g=x):OwnN w' (DG b x) V l:=
 h.keep (fun k hk c=>hg.block k c (fun e=>by injection e with e;have h1:=hk.1;have h2:=hk.2;omega)) hg.size
theorem PNl.mk{X:PCtx}{D:Nat→Prop}{w w':World}{p:PS}{f:Nat}{r:NL×PS}(V:Value)(l:NL)(q:PS)(hr:r=(l,q))(hm:Mvd w w' X q)(b:OwnN w' D V l)(hk:qQ l)(hl:l.len≤2*f+2)(hd:q.deep=p.deep):PNl X D w p f r (.returned V) w':=by
 subst hr;exact⟨V,rfl,hm,b,hk,hl,hd⟩
theorem Jg{op ln:Int}{s:ByteArray}{k n:Int}{t:ByteArray}{sub:NL}{o:Int}{tl:NL}(h:zF (nd op ln s k n t sub)=some (o,tl)):(o=27∧tl=nd op ln s k n t sub)∨(o=28∧tl=sub):=by
 unfold zF at h;split at h
 ·injection h with h;injection h with h1 h2;exact .inl ⟨h1.symm,h2.symm⟩
 ·split at h
  ·injection h with h;injection h with h1 h2;exact .inr ⟨h1.symm,h2.symm⟩
  ·cases h
theorem XP{op ln:Int}{s:ByteArray}{k n:Int}{t:ByteArray}{sub:NL}(h:qQ (nd op ln s k n t sub)):qQ sub:=h.2.1
theorem Zc{W:World}{b d B:Nat}{V c:Value}{l sub:NL}{f:Nat}(h:OwnN W (DG b d) V l)(hx:OwnN W (DG B f) c sub)(op ln:Int)(s:ByteArray)(k n:Int)(t:ByteArray)(va:Option Addr)(vc:Nat)(j:b≤B)(h0:d<B)(i:B≤W.heap.size)(h1:f<B)(e: ∀g,V.ownBlock=some g→g<B):
 OwnN (W.alloc (.cells (qN op ln s k n t va vc c) 31)) (DG b d) V l∧
 RpN (W.alloc (.cells (qN op ln s k n t va vc c) 31)) (SN (W.alloc (.cells (qN op ln s k n t va vc c) 31)) (DG b d) V) (nd op ln s k n t sub) (some ⟨W.heap.size,0,none⟩):=
 ⟨h.below ((Below.refl _ _).alloc (Nat.le_refl _) _),Zn hx op ln s k n t va vc ⟨i,by omega⟩ (fun k hk=>⟨by have:=hk.1;omega,by have:=hk.1;omega⟩) (fun g hg hk=>by have:=e g hg;have:=hk.1;omega)⟩
theorem QA{a W c:World}{X:PCtx}{p:PS}{b j:Nat}{V:Value}{l:NL}{o:Obj}(hm:Mvd a W X p)(i:OwnN W (DG b j) V l)(n:X.P<b)(ha:a.heap.size≤b)(hg:(W.alloc o).grownBy c V.ownBlock):
 Mvd a c X p∧W.heap.size+1≤c.heap.size∧ ∀(g:Nat)(d d1 d2 d3 d4 d5 f d7:Value),g<b∨g=j→NdB W g d d1 d2 d3 d4 d5 f d7→NdB c g d d1 d2 d3 d4 d5 f d7:=by
 have hb:Below W.heap.size W (W.alloc o):=(Below.refl _ _).alloc (Nat.le_refl _) _;refine⟨(hm.alloc o).app (i.below hb) (fun k hk=>Nat.lt_of_lt_of_le n hk.1) (fun k hk=>Nat.le_trans ha hk.1) hg,?_,fun g d d1 d2 d3 d4 d5 f d7 q m=>(m.alloc o).app hg (fun e=>by have h:=(i.ge g e).1;have h1:=h.1;have h2:=h.2;omega)⟩;have:=hg.size;simp at this;omega
end
theorem KG(X:PCtx)(F:Nat)(hF:F≤1000000000)(ih:EC X F)(e:ByteArray):zP X 109 #[.string e] (.within e.data.toList) (F+1):=by
 intro w p r J h0 h1 hr;rw[qa]at hr;have hPl:=J.lt;have hlen:=J.len;obtain⟨i0,hi0,hz0,hz1,hz2⟩:=info_parts qz;have IH:=hid ih;clear ih
 cases hd:(qh p).err.isNone with
 |false=>
  rw[hd]at hr;replace hr:some (jw,qf X.l (qu (qh p)) e.data.toList)=some r:=hr;have HD:=hid hd;clear hd;have ac:=hid (show r=(jw,qf X.l (qu (qh p)) e.data.toList)from(Option.some.inj hr).symm);clear hr;obtain⟨t,g⟩: ∃t,t=((w).alloc (.cells #[.int .i64 0,.int .i64 0,.string ⟨#[]⟩,.int .i64 0,.int .i64 0,.string ⟨#[]⟩,.slice none 0 0,.slice none 0 0] 31)).alloc (.cells #[.int .i64 0,.int .i64 0,.string ⟨#[]⟩,.int .i64 0,.int .i64 0,.string ⟨#[]⟩,.slice none 0 0,.slice none 0 0] 31):=⟨_,rfl⟩
  have A:=hid (show Mvd w t X p by rw[g];exact((Mvd.of J).alloc _).alloc _);have hsa:t.heap.size=w.heap.size+2:=by rw[g];simp
  have af:=hid (show zN t w.heap.size by rw[g];exact(zN.new w).alloc _);have ae:=hid (show zN t (w.heap.size+1)by rw[g];exact zN.new1 w _);have ad:=hid g;clear g;go_enter Tryz.func109,Tryz.ntmps109
  go_wp2_with fail
  rw[←ad.out];refine(xr A.out.st (by first|omega|(simp<;>omega)) (by first|omega|(simp<;>omega)) HD.out).mono ?_;rintro e1 w1 ⟨rfl,j⟩;have z:=hid (A.out.trans j);have hs1:=j.grown.size;have v:=hid (NdB.grown af.out j.grown (show X.P<w.heap.size by omega));have u:=hid (NdB.grown ae.out j.grown (show X.P<(w.heap.size+1)by omega));clear j;go_wp2_with fail
  refine(je X _ _ z.out.st (by first|omega|(simp<;>omega)) (by first|omega|(simp<;>omega))).mono ?_;rintro e2 w2 ⟨rfl,m⟩;have D:=hid (z.out.trans m);have hs2:=m.grown.size;have y:=hid (NdB.grown v.out m.grown (show X.P<w.heap.size by omega));have b:=hid (NdB.grown u.out m.grown (show X.P<(w.heap.size+1)by omega));clear m;go_wp2_with fail
  refine(qT D.out.st (s:=e) (L:=e.data.toList) rfl).mono ?_;rintro e3 w3 ⟨rfl,C⟩;have G:=hid (D.out.trans C);have hs3:=C.grown.size;have c:=hid (NdB.grown y.out C.grown (show X.P<w.heap.size by omega));have f:=hid (NdB.grown b.out C.grown (show X.P<(w.heap.size+1)by omega));clear C;have N:=f.out.c0;have O:=f.out.c1;have R:=f.out.c2;have S:=f.out.c3;have T:=f.out.c4;have U:=f.out.c5;have V:=f.out.c6;have Y:=f.out.c7;have an:=c.out.c0;have f2_0:=c.out.fr 0;have ao:=c.out.c1;have f2_1:=c.out.fr 1;have ap:=c.out.c2;have f2_2:=c.out.fr 2;have aq:=c.out.c3;have f2_3:=c.out.fr 3;have ar:=c.out.c4;have f2_4:=c.out.fr 4;have au:=c.out.c5;have f2_5:=c.out.fr 5;have av:=c.out.c6;have f2_6:=c.out.fr 6;have aw:=c.out.c7;have f2_7:=c.out.fr 7;go_wp2_with fail
  refine ql Tryz.results109 w.heap.size rfl rfl (c.out.set8 _ _ _ _ _ _ _ _) ?_;exact PNd.mk 0 0 ⟨#[]⟩ 0 0 ⟨#[]⟩ none 0 (.slice none 0 0) .nil _ ac.out (G.out.node c.out (by omega) (by omega) (qe _ _ _ _ _ _ _ _ _ _)) (OwnN.nil _ _) (zr (by decide) (by decide)) (Nat.zero_le _) (by first|omega|(simp<;>omega))
 |true=>
  rw[hd]at hr;have hle:=js hd;have HD:=hid hd;clear hd;replace hr:((qa X.l F .expr (qh p)).bind fun(x,p)=>some (x,qf X.l (qu p) e.data.toList))=some r:=hr
  cases I:qa X.l F .expr (qh p)with
  |none=>rw[I]at hr;cases hr
  |some q1=>
  obtain⟨n1,p1⟩:=q1;rw[I]at hr;replace hr:some (n1,qf X.l (qu p1) e.data.toList)=some r:=hr;have HQ1:=hid I;clear I;have ac:=hid (show r=(n1,qf X.l (qu p1) e.data.toList)from(Option.some.inj hr).symm);clear hr;obtain⟨t,g⟩: ∃t,t=((w).alloc (.cells #[.int .i64 0,.int .i64 0,.string ⟨#[]⟩,.int .i64 0,.int .i64 0,.string ⟨#[]⟩,.slice none 0 0,.slice none 0 0] 31)).alloc (.cells #[.int .i64 0,.int .i64 0,.string ⟨#[]⟩,.int .i64 0,.int .i64 0,.string ⟨#[]⟩,.slice none 0 0,.slice none 0 0] 31):=⟨_,rfl⟩
  have A:=hid (show Mvd w t X p by rw[g];exact((Mvd.of J).alloc _).alloc _);have hsa:t.heap.size=w.heap.size+2:=by rw[g];simp
  have af:=hid (show zN t w.heap.size by rw[g];exact(zN.new w).alloc _);have ae:=hid (show zN t (w.heap.size+1)by rw[g];exact zN.new1 w _);have ad:=hid g;clear g;go_enter Tryz.func109,Tryz.ntmps109
  go_wp2_with fail
  rw[←ad.out];refine(jJ A.out.st (by first|omega|(simp<;>omega)) (by first|omega|(simp<;>omega)) HD.out).mono ?_;rintro e1 w1 ⟨rfl,j⟩;have z:=hid (A.out.trans j);have hs1:=j.grown.size;have v:=hid (NdB.grown af.out j.grown (show X.P<w.heap.size by omega));have u:=hid (NdB.grown ae.out j.grown (show X.P<(w.heap.size+1)by omega));clear j;go_wp2_with fail
  refine(IH.out.expr F (Nat.le_refl _) w1 _ _ z.out.st (by first|omega|(simp<;>omega)) (by first|omega|(simp<;>omega)) HQ1.out).mono ?_;rintro e2 w2 ⟨op2,ln2,t2,k2,m2,u2,ai,aj,V2,sub2,ag,rfl,m,ah,H,hl2,aG⟩;obtain⟨A2,ax,rfl⟩:=ah.form;have ag:n1=nd op2 ln2 t2 k2 m2 u2 sub2:=ag;subst ag;have H:=hid H;have aG:p1.deep=p.deep+1:=by have h:p1.deep=(qh p).deep:=aG;(try simp at h);omega
  have D:=hid (z.out.trans m);have hs2:=m.grown.size;have y:=hid (NdB.grown v.out m.grown (show X.P<w.heap.size by omega));have b:=hid (NdB.grown u.out m.grown (show X.P<(w.heap.size+1)by omega));have HO2:=hid (ah.wide (D':=DG w1.heap.size 0) (fun k hk H=>⟨hk,by omega⟩));clear m ah;unfold qN;have N:=b.out.c0;have ay:=b.out.fr 0;have O:=b.out.c1;have az:=b.out.fr 1;have R:=b.out.c2;have aA:=b.out.fr 2;have S:=b.out.c3;have aB:=b.out.fr 3;have T:=b.out.c4;have aC:=b.out.fr 4;have U:=b.out.c5;have aD:=b.out.fr 5;have V:=b.out.c6;have aE:=b.out.fr 6;have Y:=b.out.c7;have aF:=b.out.fr 7;obtain⟨w3,M⟩: ∃W,W=((((((((w2.setCell ⟨(w.heap.size+1),0,none⟩ (.int .i64 op2)).setCell ⟨(w.heap.size+1),1,none⟩ (.int .i64 ln2)).setCell ⟨(w.heap.size+1),2,none⟩ (.string t2)).setCell ⟨(w.heap.size+1),3,none⟩ (.int .i64 k2)).setCell ⟨(w.heap.size+1),4,none⟩ (.int .i64 m2)).setCell ⟨(w.heap.size+1),5,none⟩ (.string u2)).setCell ⟨(w.heap.size+1),6,none⟩ (.slice ai 0 aj)).setCell ⟨(w.heap.size+1),7,none⟩ (.slice A2 sub2.len ax)):=⟨_,rfl⟩
  have B:w2.grownBy w3 (some (w.heap.size+1)):=by rw[M];exact qe _ _ _ _ _ _ _ _ _ _
  have hs3:=B.size;have G:=hid (D.out.node b.out (by omega) (by omega) B);have c:=hid (y.out.apart B (by omega));have f:=hid (show NdB w3 (w.heap.size+1) (.int .i64 op2) (.int .i64 ln2) (.string t2) (.int .i64 k2) (.int .i64 m2) (.string u2) (.slice ai 0 aj) (.slice A2 sub2.len ax)by rw[M];exact b.out.set8 _ _ _ _ _ _ _ _);have Z:=hid (HO2.out.apart B (by omega));have HW3:=hid M;clear M B;go_wp2_with fail
  rw[←HW3.out];clear N ay O az R aA S aB T aC U aD V aE Y aF;refine(je X _ _ G.out.st (by first|omega|(simp<;>omega)) (by first|omega|(simp<;>omega))).mono ?_;rintro e4 w4 ⟨rfl,n⟩;have am:=hid (G.out.trans n);have hs4:=n.grown.size;have al:=hid (NdB.grown c.out n.grown (show X.P<w.heap.size by omega));have ak:=hid (NdB.grown f.out n.grown (show X.P<(w.heap.size+1)by omega));have aa:=hid (OwnN.grown Z.out n.grown (DG.not (by omega)));clear n;go_wp2_with fail
  refine(qT am.out.st (s:=e) (L:=e.data.toList) rfl).mono ?_;rintro e5 w5 ⟨rfl,q⟩;have HM5:=hid (am.out.trans q);have hs5:=q.grown.size;have d:=hid (NdB.grown al.out q.grown (show X.P<w.heap.size by omega));have i:=hid (NdB.grown ak.out q.grown (show X.P<(w.heap.size+1)by omega));have ab:=hid (OwnN.grown aa.out q.grown (DG.not (by omega)));clear q;have an:=i.out.c0;have ao:=i.out.c1;have ap:=i.out.c2;have aq:=i.out.c3;have ar:=i.out.c4;have au:=i.out.c5;have av:=i.out.c6;have aw:=i.out.c7;have c3_0:=d.out.c0;have f3_0:=d.out.fr 0;have c3_1:=d.out.c1;have f3_1:=d.out.fr 1;have c3_2:=d.out.c2;have f3_2:=d.out.fr 2;have c3_3:=d.out.c3;have f3_3:=d.out.fr 3;have c3_4:=d.out.c4;have f3_4:=d.out.fr 4;have c3_5:=d.out.c5;have f3_5:=d.out.fr 5;have c3_6:=d.out.c6;have f3_6:=d.out.fr 6;have c3_7:=d.out.c7;have f3_7:=d.out.fr 7;go_wp2_with fail
  refine ql Tryz.results109 w.heap.size rfl rfl (d.out.set8 _ _ _ _ _ _ _ _) ?_;exact PNd.mk op2 ln2 t2 k2 m2 u2 ai aj _ sub2 _ ac.out (HM5.out.node d.out (by omega) (by omega) (qe _ _ _ _ _ _ _ _ _ _)) (qC ab.out (by omega) (qe _ _ _ _ _ _ _ _ _ _) (by omega)) H.out (by omega) (by first|omega|(simp<;>omega))
theorem qbz(X:PCtx)(F:Nat)(hF:F≤1000000000)(ih:EC X F):zP X 203 #[] .part (F+1):=by
 intro w p r u h0 h1 hr;rw[qa]at hr;have hPl:=u.lt;have hlen:=u.len;obtain⟨i0,hi0,hz0,hz1,hz2⟩:=info_parts qz;have IH:=hid ih;clear ih
 cases hb:qj X.l p [40]with
 |true=>
  rw[hb]at hr;have HB:=hid hb;clear hb;have HQ1:=hid (show qa X.l F (.within [41]) (qb p)=some r from hr);clear hr;obtain⟨m,d⟩: ∃m,m=(w).alloc (.cells #[.int .i64 0,.int .i64 0,.string ⟨#[]⟩,.int .i64 0,.int .i64 0,.string ⟨#[]⟩,.slice none 0 0,.slice none 0 0] 31):=⟨_,rfl⟩
  have j:=hid (show Mvd w m X p by rw[d];exact((Mvd.of u).alloc _));have hsa:m.heap.size=w.heap.size+1:=by rw[d];simp
  have y:=hid (show zN m w.heap.size by rw[d];exact(zN.new w));have x:=hid d;clear d;go_enter Tryz.func203,Tryz.ntmps203
  go_wp2_with fail
  rw[←x.out];refine(za j.out.st (s:=⟨#[40]⟩) (L:= [40]) rfl HB.out).mono ?_;rintro e1 w1 ⟨rfl,e⟩;have i:=hid (j.out.trans e);have hs1:=e.grown.size;have g:=hid (NdB.grown y.out e.grown (show X.P<w.heap.size by omega));clear e;obtain⟨n1,p1⟩:=r;go_wp2_with fail
  refine(IH.out.within F (Nat.le_refl _) ⟨#[41]⟩ w1 _ _ i.out.st (by first|omega|(simp<;>omega)) (by first|omega|(simp<;>omega)) HQ1.out).mono ?_;rintro e2 w2 ⟨op2,ln2,t2,Z,m2,u2,va2,vc2,V2,sub2,z,rfl,f,A,q,hl2,Y⟩;obtain⟨A2,cc2,rfl⟩:=A.form;have z:n1=nd op2 ln2 t2 Z m2 u2 sub2:=z;subst z;have q:=hid q;have Y:p1.deep=p.deep+0:=by have h:p1.deep=(qb p).deep:=Y;(try simp at h);omega
  have n:=hid (i.out.trans f);have hs2:=f.grown.size;have b:=hid (NdB.grown g.out f.grown (show X.P<w.heap.size by omega));have HO2:=hid (A.wide (D':=DG w1.heap.size 0) (fun k hk q=>⟨hk,by omega⟩));clear f A;unfold qN;have B:=b.out.c0;have N:=b.out.fr 0;have C:=b.out.c1;have O:=b.out.fr 1;have D:=b.out.c2;have R:=b.out.fr 2;have G:=b.out.c3;have S:=b.out.fr 3;have H:=b.out.c4;have T:=b.out.fr 4;have I:=b.out.c5;have U:=b.out.fr 5;have J:=b.out.c6;have V:=b.out.fr 6;have M:=b.out.c7;have W:=b.out.fr 7;go_wp2_with fail
  have v:=hid (rfl:(nd op2 ln2 t2 Z m2 u2 sub2,p1)=(nd op2 ln2 t2 Z m2 u2 sub2,p1));refine ql Tryz.results203 w.heap.size rfl rfl (b.out.set8 _ _ _ _ _ _ _ _) ?_;exact PNd.mk op2 ln2 t2 Z m2 u2 va2 vc2 _ sub2 _ v.out (n.out.node b.out (by omega) (by omega) (qe _ _ _ _ _ _ _ _ _ _)) (qC HO2.out (by omega) (qe _ _ _ _ _ _ _ _ _ _) (by omega)) q.out (by omega) (by first|omega|(simp<;>omega))
 |false=>
  rw[hb]at hr;have HB:=hid hb;clear hb;replace hr:some (nd 1 (qd X.l p) ⟨#[]⟩ 2 0 (qE X.l p).1 .nil,(qE X.l p).2)=some r:=hr;have v:=hid (show r=(nd 1 (qd X.l p) ⟨#[]⟩ 2 0 (qE X.l p).1 .nil,(qE X.l p).2)from(Option.some.inj hr).symm);clear hr;obtain⟨m,d⟩: ∃m,m=(w).alloc (.cells #[.int .i64 0,.int .i64 0,.string ⟨#[]⟩,.int .i64 0,.int .i64 0,.string ⟨#[]⟩,.slice none 0 0,.slice none 0 0] 31):=⟨_,rfl⟩
  have j:=hid (show Mvd w m X p by rw[d];exact((Mvd.of u).alloc _));have hsa:m.heap.size=w.heap.size+1:=by rw[d];simp
  have y:=hid (show zN m w.heap.size by rw[d];exact(zN.new w));have x:=hid d;clear d;go_enter Tryz.func203,Tryz.ntmps203
  go_wp2_with fail
  rw[←x.out];refine(qr j.out.st (s:=⟨#[40]⟩) (L:= [40]) rfl HB.out).mono ?_;rintro e1 w1 ⟨rfl,e⟩;have i:=hid (j.out.trans e);have hs1:=e.grown.size;have g:=hid (NdB.grown y.out e.grown (show X.P<w.heap.size by omega));clear e;go_wp2_with fail
  refine(qO i.out.st).mono ?_;rintro e2 w2 ⟨rfl,f⟩;have n:=hid (i.out.trans f);have hs2:=f.grown.size;have b:=hid (NdB.grown g.out f.grown (show X.P<w.heap.size by omega));clear f;go_wp2_with fail
  refine(Zm X _ _ n.out.st).mono ?_;rintro e3 w3 ⟨rfl,t⟩;have HM3:=hid (n.out.trans t);have hs3:=t.grown.size;have c:=hid (NdB.grown b.out t.grown (show X.P<w.heap.size by omega));clear t;have B:=c.out.c0;have N:=c.out.fr 0;have C:=c.out.c1;have O:=c.out.fr 1;have D:=c.out.c2;have R:=c.out.fr 2;have G:=c.out.c3;have S:=c.out.fr 3;have H:=c.out.c4;have T:=c.out.fr 4;have I:=c.out.c5;have U:=c.out.fr 5;have J:=c.out.c6;have V:=c.out.fr 6;have M:=c.out.c7;have W:=c.out.fr 7;go_wp2_with fail
  refine ql Tryz.results203 w.heap.size rfl rfl (c.out.set8 _ _ _ _ _ _ _ _) ?_;exact PNd.mk 1 (qd X.l p) ⟨#[]⟩ 2 0 (qE X.l p).1 none 0 (.slice none 0 0) .nil _ v.out (HM3.out.node c.out (by omega) (by omega) (qe _ _ _ _ _ _ _ _ _ _)) (OwnN.nil _ _) (zr (by decide) (by decide)) (Nat.zero_le _) (by first|omega|(simp<;>omega))
theorem qat(X:PCtx)(F:Nat)(hF:F≤1000000000)(U:EC X F)(e:ByteArray):ZP X 204 #[.string e] (.items e.data.toList) (F+1):=by
 intro w p r q h0 h1 hr;rw[qa]at hr;have aa:=q.lt;have T:=q.len;obtain⟨i0,ab,af,ag,ah⟩:=info_parts qz;have Y:=hid U;clear U
 cases hd:(qh p).err.isNone with
 |false=>
  rw[hd]at hr;have H:=hid hd;clear hd;replace hr:some (.nil,qf X.l (qu (qh p)) e.data.toList)=some r:=hr;have n:=hid (show r=(.nil,qf X.l (qu (qh p)) e.data.toList)from(Option.some.inj hr).symm);clear hr;have i:=hid (Mvd.of q);go_enter Tryz.func204,Tryz.ntmps204
  go_wp2_with fail
  refine(xr i.out.st (by first|omega|(simp<;>omega)) (by first|omega|(simp<;>omega)) H.out).mono ?_;rintro e1 V ⟨rfl,b⟩;have f:=hid (i.out.trans b);have hs1:=b.grown.size;clear b;go_wp2_with fail
  refine(je X _ _ f.out.st (by first|omega|(simp<;>omega)) (by first|omega|(simp<;>omega))).mono ?_;rintro e2 w2 ⟨rfl,c⟩;have g:=hid (f.out.trans c);have hs2:=c.grown.size;clear c;go_wp2_with fail
  refine(qT g.out.st (s:=e) (L:=e.data.toList) rfl).mono ?_;rintro e3 w3 ⟨rfl,d⟩;have m:=hid (g.out.trans d);have hs3:=d.grown.size;clear d;go_wp2_with fail
  go_ret
  exact PNl.mk (.slice none 0 0) .nil _ n.out m.out (OwnN.nil _ _) trivial (Nat.zero_le _) (by first|omega|(simp<;>omega))
 |true=>
  rw[hd]at hr;have H:=hid hd;have ad:=js hd;clear hd
  cases hb:qj X.l (qh p) e.data.toList with
  |true=>
   rw[hb]at hr;have J:=hid hb;clear hb;replace hr:some (.nil,qf X.l (qu (qh p)) e.data.toList)=some r:=hr;have n:=hid (show r=(.nil,qf X.l (qu (qh p)) e.data.toList)from(Option.some.inj hr).symm);clear hr;have i:=hid (Mvd.of q);go_enter Tryz.func204,Tryz.ntmps204
   go_wp2_with fail
   refine(jJ i.out.st (by first|omega|(simp<;>omega)) (by first|omega|(simp<;>omega)) H.out).mono ?_;rintro e1 V ⟨rfl,b⟩;have f:=hid (i.out.trans b);have hs1:=b.grown.size;clear b;go_wp2_with fail
   refine(QF f.out.st (s:=e) (L:=e.data.toList) rfl J.out).mono ?_;rintro e2 w2 ⟨rfl,c⟩;have g:=hid (f.out.trans c);have hs2:=c.grown.size;clear c;go_wp2_with fail
   refine(je X _ _ g.out.st (by first|omega|(simp<;>omega)) (by first|omega|(simp<;>omega))).mono ?_;rintro e3 w3 ⟨rfl,d⟩;have m:=hid (g.out.trans d);have hs3:=d.grown.size;clear d;go_wp2_with fail
   refine(qT m.out.st (s:=e) (L:=e.data.toList) rfl).mono ?_;rintro Z w4 ⟨rfl,j⟩;have t:=hid (m.out.trans j);have S:=j.grown.size;clear j;go_wp2_with fail
   go_ret
   exact PNl.mk (.slice none 0 0) .nil _ n.out t.out (OwnN.nil _ _) trivial (Nat.zero_le _) (by first|omega|(simp<;>omega))
  |false=>
   rw[hb]at hr;have J:=hid hb;clear hb;replace hr:((qa X.l F (.row .nil) (qh p)).bind fun(x,p)=>some (x,qf X.l (qu p) e.data.toList))=some r:=hr
   cases v:qa X.l F (.row .nil) (qh p)with
   |none=>rw[v]at hr;cases hr
   |some q1=>
   obtain⟨C,I⟩:=q1;rw[v]at hr;replace hr:some (C,qf X.l (qu I) e.data.toList)=some r:=hr;have O:=hid v;clear v;have n:=hid (show r=(C,qf X.l (qu I) e.data.toList)from(Option.some.inj hr).symm);clear hr;have i:=hid (Mvd.of q);go_enter Tryz.func204,Tryz.ntmps204
   go_wp2_with fail
   refine(jJ i.out.st (by first|omega|(simp<;>omega)) (by first|omega|(simp<;>omega)) H.out).mono ?_;rintro e1 V ⟨rfl,b⟩;have f:=hid (i.out.trans b);have hs1:=b.grown.size;clear b;go_wp2_with fail
   refine(ZE f.out.st (s:=e) (L:=e.data.toList) rfl J.out).mono ?_;rintro e2 w2 ⟨rfl,c⟩;have g:=hid (f.out.trans c);have hs2:=c.grown.size;clear c;go_wp2_with fail
   refine(Y.out.row F (Nat.le_refl _) w2 _ _ g.out.st (by first|omega|(simp<;>omega)) (by first|omega|(simp<;>omega)) O.out).mono ?_;rintro e3 w3 ⟨V3,rfl,d,B,A,G,D⟩;obtain⟨W,R,rfl⟩:=B.form;have A:=hid (show qQ C from A);replace G:C.len≤2*_+2:=G;have D:I.deep=p.deep+1:=by have h:I.deep=(qh p).deep:=D;(try simp at h);omega
   have m:=hid (g.out.trans d);have hs3:=d.grown.size;have N:=hid (B.wide (D':=DG w2.heap.size 0) (fun k hk ac=>⟨hk,by omega⟩));clear d B;go_wp2_with fail
   refine(je X _ _ m.out.st (by first|omega|(simp<;>omega)) (by first|omega|(simp<;>omega))).mono ?_;rintro Z w4 ⟨rfl,j⟩;have t:=hid (m.out.trans j);have S:=j.grown.size;have y:=hid (OwnN.grown N.out j.grown (DG.not (by omega)));clear j;go_wp2_with fail
   refine(qT t.out.st (s:=e) (L:=e.data.toList) rfl).mono ?_;rintro e5 w5 ⟨rfl,u⟩;have M:=hid (t.out.trans u);have ae:=u.grown.size;have z:=hid (OwnN.grown y.out u.grown (DG.not (by omega)));clear u;go_wp2_with fail
   go_ret
   exact PNl.mk (.slice W C.len R) C _ n.out M.out (z.out.wide (fun k hk _=>by have:=hk.1;show w.heap.size≤k;omega)) A.out (by omega) (by first|omega|(simp<;>omega))
theorem Kq{B:Nat}{w b w2:World}{row:Option Nat}(h:Below B w b)(hz:B≤b.heap.size)(hg:b.grownBy w2 row)(hr: ∀k,row=some k→B≤k):Below B w w2:=
 ⟨hg.os.trans h.os,hg.tape.trans h.tape,hg.output.trans h.output,Nat.le_trans h.size hg.size,
  fun k hk=>(hg.block k (by omega) (fun e=>by have:=hr k e.symm;omega)).trans (h.block k hk)⟩
def StrG(w:World)(G:Nat)(l:List (List UInt8)):Prop:=G<w.heap.size∧ ∀j x,l[j]?=some x→w.cell? ⟨G,j,none⟩=some (.string ⟨x.toArray⟩)
theorem StrG.keep{w w':World}{G:Nat}{l:List (List UInt8)}(h:StrG w G l)(hg:w'.heap[G]?=w.heap[G]?)(hz:w.heap.size≤w'.heap.size):StrG w' G l:=
 ⟨Nat.lt_of_lt_of_le h.1 hz,fun j x b=>by
  have:=h.2 j x b;unfold World.cell? at this⊢
  rw[hg];exact this⟩
def kK(p:List UInt8→Bool):List (List UInt8)→Nat→Int
 | [],_=> -1
 |x::l,i=>if p x then(i:Int)else kK p l (i+1)
theorem qbe(p:List UInt8→Bool)(l:List (List UInt8))(i:Nat)(x:List UInt8)(h:l[i]?=some x):kK p (l.drop i) i=if p x then(i:Int)else kK p (l.drop (i+1)) (i+1):=by
 have hi:i<l.length:=by
  rcases Nat.lt_or_ge i l.length with b|hge
  ·exact b
  ·rw[List.getElem?_eq_none hge]at h;cases h
 rw[List.getElem?_eq_getElem hi]at h;injection h with h
 rw[List.drop_eq_getElem_cons hi,h,kK]
theorem XH(p:List UInt8→Bool): ∀(l:List (List UInt8)) (i:Nat),decide (0≤kK p l i)=l.any p
 | [],i=>rfl
 |x::l,i=>by
  rw[kK,List.any_cons]
  cases p x
  ·rw[if_neg (by decide),Bool.false_or];exact XH p l (i+1)
  ·rw[if_pos rfl,Bool.true_or];exact decide_eq_true (by omega)
theorem qfC(X:PCtx)(q:PS)(G c:Nat)(l:List (List UInt8))(w:World)(j:PSt w X q)(h:StrG w G l)(hl:l.length≤1000000):
 Calls Tryz.prog 152 #[.slice (some ⟨G,0,none⟩) l.length c,.func (.func 57) #[.pointer (some ⟨X.P,0,none⟩)] #[]] w fun e w'=>e= .returned (.int .i64 (kK (fun x=>qj X.l q x) l 0))∧Below w.heap.size w w':=by
 obtain⟨r,hr⟩: ∃r,r=kK (fun x=>qj X.l q x) l 0:=⟨_,rfl⟩
 rw[←hr];have u:=hid hr;have m:=hid h;have v:=hid j;clear hr h j;go_enter Tryz.func152,Tryz.ntmps152
 go_wp2_with fail
 go_loopg [5,8] l.length (fun k a z wr=> ∃i:Nat,z= .int .i64 (i:Int)∧i+k=l.length∧Hid (Below w.heap.size w wr)∧Hid (r=kK (fun x=>qj X.l q x) (l.drop i) i))
 case atStart=>exact⟨0,rfl,by omega,hid (Below.refl _ _),u⟩
 case round=>
  obtain⟨i,rfl,hk,f,n⟩:=hrel;by_cases hi:i<l.length
  ·obtain⟨k,rfl⟩: ∃k,gk=k+1:=⟨gk-1,by omega⟩
   obtain⟨x,hx⟩: ∃x,l[i]?=some x:=⟨_,List.getElem?_eq_getElem hi⟩
   have hc:wr.cell? ⟨G,i,none⟩=some (.string ⟨x.toArray⟩):=(f.out.cell (p:=⟨G,i,none⟩) m.out.1).trans (m.out.2 i x hx);have AC:=hid (Jy X q ⟨x.toArray⟩ wr (v.out.below f.out));have HD:=hid (n.out.trans (qbe _ l i x hx));have B:(0:Int)≤(i:Int):=by omega
   have C:(i:Int)<(l.length:Int):=by omega
   obtain⟨b,hb⟩: ∃b,b=qj X.l q x:=⟨_,rfl⟩
   replace AC:=hid (show Calls Tryz.prog 57 #[.pointer (some ⟨X.P,0,none⟩),.string ⟨x.toArray⟩] wr (fun e w'=>e= .returned (.bool b)∧Below wr.heap.size wr w')from by rw[hb];exact AC.out);replace HD:=hid (show r=if b then(i:Int)else kK (fun x=>qj X.l q x) (l.drop (i+1)) (i+1)from by rw[hb];exact HD.out);clear hx hb
   cases b with
   |true=>
    go_wp2_with fail
    refine AC.out.mono ?_;rintro e A ⟨rfl,d⟩;have g:=hid (f.out.trans (qc d f.out.size));clear d;go_wp2_with fail
    go_ret
    exact⟨by rw[HD.out];rfl,g.out⟩
   |false=>
    go_wp2_with fail
    refine AC.out.mono ?_;rintro e A ⟨rfl,d⟩;have g:=hid (f.out.trans (qc d f.out.size));clear d;go_wp2_with fail
    go_roundg k
    case measure=>omega
    case rel=>exact⟨i+1,by go_num,by omega,g,hid (by rw[HD.out];rfl)⟩
  ·have y: ¬(i:Int)<(l.length:Int):=by omega
   have t:=hid (show r= -1 by rw[n.out,List.drop_eq_nil_of_le (by omega)];rfl);go_wp2_with fail
   go_ret
   exact⟨by rw[t.out];rfl,f.out⟩
theorem qft(X:PCtx)(q:PS)(G c:Nat)(l:List (List UInt8))(w:World)(b:PSt w X q)(h:StrG w G l)(hl:l.length≤1000000):
 Calls Tryz.prog 110 #[.slice (some ⟨G,0,none⟩) l.length c,.func (.func 57) #[.pointer (some ⟨X.P,0,none⟩)] #[]] w fun e w'=>e= .returned (.bool (l.any fun x=>qj X.l q x))∧Below w.heap.size w w':=by
 have d:=hid (qfC X q G c l w b h hl);obtain⟨r,hr⟩: ∃r,r=l.any (fun x=>qj X.l q x):=⟨_,rfl⟩
 obtain⟨k,hk⟩: ∃k,k=kK (fun x=>qj X.l q x) l 0:=⟨_,rfl⟩
 have g:=hid (show decide (0≤k)=r by rw[hk,hr];exact XH _ l 0);rw[←hk]at d;rw[←hr];clear hr hk b h hl;go_enter Tryz.func110,Tryz.ntmps110
 go_wp2_with fail
 refine d.out.mono ?_;rintro e i ⟨rfl,hb⟩;have f:=hid hb;clear hb;go_wp2_with fail
 go_ret
 exact⟨by rw[←g.out];rfl,f.out⟩
end Go.Proofs.YtggngahmafbihaaGreatDoor
