/- Contracts, and the plain mathematics beneath. -/
import Derived.Deep.RegionLaw
import Derived.Deep.AppendLies
import Derived.Shelf.GgClosure.Gives
import Derived.Sort.Grow
import Derived.Sort.Row
import Derived.Maps.AppendAt
import Derived.Test.YtggngahmafbihaaGreatDoorPerAF
import Derived.Test.YtggngahmafbihaaGreatDoorPerAA
import Derived.Test.YtggngahmafbihaaGreatDoorShelf
import Derived.Test.YtggngahmafbihaaGreatDoorPerAE
set_option linter.unusedVariables false
set_option linter.unusedSimpArgs false
set_option maxRecDepth 100000
set_option maxHeartbeats 1000000
namespace Go.Proofs.YtggngahmafbihaaGreatDoor
open Go.RowKit Go.Lib
def zJ(c:Nat):ByteArray:=jy.getD c ByteArray.empty
theorem qcw: ∀a b:Fin 15,a≠b→ ∃j:Fin 20,j.val<(zJ a.val).size∧j.val<(zJ b.val).size∧pk (zJ a.val) j.val≠pk (zJ b.val) j.val:=by decide+kernel
theorem kQ(s:ByteArray)(r:List UInt8): ∀(l:List UInt8)(f i:Nat)(acc:List UInt8),zY l=true→s.data.toList.drop i=jh l++34::r→l.length<f→qL s f i acc=(i+(jh l).length,true,acc++l)
 | [],f+1,i,acc,_,hd,_=>by
   rw[xx _ _ _ _ (zj hd).1,List.append_nil];rfl
 |c::t,f+1,i,acc,hp,hd,hf=>by
  have a:Qa c=true∧zY t=true:=by unfold zY at hp⊢;rw[List.all_cons,Bool.and_eq_true]at hp;exact hp
  simp only[List.length_cons]at hf;by_cases d:c=34∨c=92
  ·rw[jh,if_pos d]at hd⊢
   obtain⟨b,d1⟩:=zj hd;obtain⟨g,d2⟩:=zj d1;rw[xy _ _ _ _ b (by rw[g];exact d),g,kQ s r t f (i+2) (acc++ [c]) a.2 d2 (by omega)];simp only[List.length_cons,List.append_assoc,List.singleton_append,Prod.mk.injEq,and_true];omega
  ·rw[jh,if_neg d]at hd⊢
   obtain⟨b,d1⟩:=zj hd;rw[xi _ _ _ _ (by rw[b];exact fun e=>d (.inl e)) (by rw[b];exact fun e=>d (.inr e)) (by rw[b];exact a.1),b,kQ s r t f (i+1) (acc++ [c]) a.2 d1 (by omega)];simp only[List.length_cons,List.append_assoc,List.singleton_append,Prod.mk.injEq,and_true];omega
theorem qaQ(s:ByteArray)(r l:List UInt8)(i:Nat)(hp:zY l=true)(hd:s.data.toList.drop i=j8 l++r):ze s i=(i+(j8 l).length,true,l):=by
 unfold j8 at hd;rw[List.cons_append,List.append_assoc,List.singleton_append]at hd;obtain⟨c,d1⟩:=zj hd;have a:(jh l++34::r).length≤s.size:=by rw[←d1,List.length_drop,Array.length_toList];exact Nat.sub_le _ _
 rw[List.length_append]at a;have b:=(XE l).1;have hb:=kQ s r l (s.size+1) (i+1) [] hp d1 (by omega);unfold ze;simp only[hb];unfold j8;simp only[if_true,List.nil_append,List.length_cons,List.length_append,List.length_nil,Prod.mk.injEq,and_true];omega
theorem qcg{l a r:List UInt8}{i:Nat}(h:l.drop i=a++r):l.drop (i+a.length)=r:=by
 rw[←List.drop_drop,h,List.drop_left]
theorem qbg(v:Int): ∃c t,itoa v=c::t∧(c=45∨qt c=true):=by
 by_cases hv:v<0
 ·obtain⟨u,rfl⟩: ∃u:Nat,v= -(u:Int):=⟨v.natAbs,by omega⟩
  rw[itoa_neg u (by omega)];exact⟨_,_,rfl,.inl rfl⟩
 ·obtain⟨u,rfl⟩: ∃u:Nat,v=(u:Int):=⟨v.toNat,by omega⟩
  rw[itoa_nonneg];obtain⟨⟨a,hd,_⟩,_⟩:=QO u
  cases b:decDigits u with
  |nil=>exact absurd b a
  |cons c t=>exact⟨c,t,rfl,.inr (by rw[kU];exact hd c (by rw[b];simp))⟩
theorem KU: ∀c:Fin 15,(zJ c.val).data.toList.head?=some 69:=by decide+kernel
theorem ke{t:ByteArray}(h:t.data.toList= []):t=ByteArray.empty:=by
 rcases t with⟨⟨l⟩⟩
 cases l with
 |nil=>rfl
 |cons a r=>cases h
theorem kB{s:ByteArray}{i:Nat}(h:i<s.size):s.data.toList.drop i=pk s i::s.data.toList.drop (i+1):=by
 have hl:i<s.data.toList.length:=by rw[Array.length_toList];exact h
 rw[List.drop_eq_getElem_cons hl];unfold pk;rw[List.getD_eq_getElem?_getD,List.getElem?_eq_getElem hl];rfl
theorem Qi(s:ByteArray): ∀(f i:Nat)(acc:List UInt8)(j:Nat)(c:List UInt8),qL s f i acc=(j,true,c)→ ∃l,c=acc++l∧zY l=true∧s.data.toList.drop i=jh l++s.data.toList.drop j
 |0,i,acc,j,c,h=>by
  unfold qL at h;simp only[Prod.mk.injEq,true_and]at h;obtain⟨rfl,rfl⟩:=h;exact⟨[],by simp,rfl,rfl⟩
 |f+1,i,acc,j,c,h=>by
  by_cases b:pk s i=34
  ·rw[xx _ _ _ _ b]at h
   simp only[Prod.mk.injEq,true_and]at h;obtain⟨rfl,rfl⟩:=h;exact⟨[],by simp,rfl,rfl⟩
  by_cases a:pk s i=92
  ·by_cases d:pk s (i+1)=34∨pk s (i+1)=92
   ·rw[xy _ _ _ _ a d]at h
    obtain⟨l,h1,h2,h3⟩:=Qi s f (i+2) _ j c h;have hi:i<s.size:=zh (by rw[a];decide);have g:i+1<s.size:=zh (by rcases d with e|e<;>rw[e]<;>decide);refine⟨pk s (i+1)::l,by rw[h1,List.append_assoc];rfl,?_,?_⟩
    ·unfold zY at h2⊢
     rw[List.all_cons,h2,Bool.and_true];rcases d with e|e<;>rw[e]<;>decide
    ·rw[kB hi,kB g,a,h3,jh,if_pos d];rfl
   ·rw[xd _ _ _ _ a d]at h;simp at h
  cases hp:Qa (pk s i)with
  |false=>rw[kh _ _ _ _ b a hp]at h;simp at h
  |true=>
   rw[xi _ _ _ _ b a hp]at h;obtain⟨l,h1,h2,h3⟩:=Qi s f (i+1) _ j c h;have hi:i<s.size:=zh (fun e=>by rw[e]at hp;exact absurd hp (by decide));refine⟨pk s i::l,by rw[h1,List.append_assoc];rfl,?_,?_⟩
   ·unfold zY at h2⊢
    rw[List.all_cons,h2,Bool.and_true];exact hp
   ·rw[kB hi,h3,jh,if_neg (by rintro(e|e);exact b e;exact a e)];rfl
theorem qbS{s:ByteArray}{i j:Nat}{l:List UInt8}(hi:i<s.size)(c:pk s i=34)(h:ze s i=(j,true,l)):s.data.toList.drop i=j8 l++s.data.toList.drop j∧zY l=true:=by
 unfold ze at h;obtain⟨q,d⟩: ∃q,q=qL s (s.size+1) (i+1) []:=⟨_,rfl⟩
 have b:=(jX s (s.size+1) (i+1) [] (by omega)).2.2 (by omega) (by omega);rw[←d]at h b;obtain⟨e,m,g⟩:=q;simp only[Prod.mk.injEq]at h;obtain⟨h1,rfl,rfl⟩:=h;rw[if_pos rfl]at h1;subst h1;have a:=b rfl;obtain⟨k,h2,h3,h4⟩:=Qi s _ _ _ e g d.symm;rw[List.nil_append]at h2;subst h2;have f:e<s.size:=zh (by rw[a];decide);refine⟨?_,h3⟩;rw[kB hi,c,h4,kB f,a,j8];simp
def zk(c:UInt8):Bool:=decide (97≤c.toNat∧c.toNat≤122)||c==95
def zz(c:UInt8):Bool:=decide (65≤c.toNat∧c.toNat≤90)
def xp(s:ByteArray)(p:UInt8→Bool):Nat→Nat→Nat
 |0,_=>0
 |f+1,i=>if i<s.size∧p (pk s i)=true then xp s p f (i+1)+1 else 0
def run(s:ByteArray)(p:UInt8→Bool)(i:Nat):Nat:=xp s p (s.size+1) i
theorem K8(s:ByteArray)(p:UInt8→Bool): ∀(f i:Nat),i≤s.size→i+xp s p f i≤s.size
 |0,i,h=>h
 |f+1,i,h=>by
  unfold xp;split
  ·rename_i hc
   have:=K8 s p f (i+1) (by omega);omega
  ·exact h
inductive WR where
 |bad (c:Nat)
 |word (n:Nat) (t:Tok)
def zi:List ByteArray:= [⟨#[97,110,121]⟩,⟨#[98,114,101,97,107]⟩,⟨#[99,111,110,116,105,110,117,101]⟩,⟨#[101,108,115,101]⟩,⟨#[101,108,115,101,105,102]⟩,⟨#[101,110,100,102,111,114]⟩,⟨#[101,110,100,102,111,114,107]⟩,⟨#[101,110,100,105,102]⟩,⟨#[101,110,100,116,114,121]⟩,⟨#[101,110,100,119,104,105,108,101]⟩,⟨#[101,120,99,101,112,116]⟩,⟨#[102,105,110,97,108,108,121]⟩,⟨#[102,111,114]⟩,⟨#[102,111,114,107]⟩,⟨#[105,102]⟩,⟨#[105,110]⟩,⟨#[114,101,116,117,114,110]⟩,⟨#[116,114,121]⟩,⟨#[119,104,105,108,101]⟩]
def zB:List ByteArray:= [⟨#[33]⟩,⟨#[33,61]⟩,⟨#[36]⟩,⟨#[37]⟩,⟨#[38,38]⟩,⟨#[39]⟩,⟨#[40]⟩,⟨#[41]⟩,⟨#[42]⟩,⟨#[43]⟩,⟨#[44]⟩,⟨#[45]⟩,⟨#[46]⟩,⟨#[46,46]⟩,⟨#[47]⟩,⟨#[58]⟩,⟨#[59]⟩,⟨#[60]⟩,⟨#[60,61]⟩,⟨#[61]⟩,⟨#[61,61]⟩,⟨#[61,62]⟩,⟨#[62]⟩,⟨#[62,61]⟩,⟨#[63]⟩,⟨#[64]⟩,⟨#[91]⟩,⟨#[93]⟩,⟨#[96]⟩,⟨#[123]⟩,⟨#[124]⟩,⟨#[124,124]⟩,⟨#[125]⟩]
def jF(s:ByteArray)(i:Nat):Nat ⊕ (Int×Nat):=
 let n:=run s qt i
 if n=0∨(1<n∧pk s i=48)∨(i+n<s.size∧(zk (pk s (i+n))=true∨zz (pk s (i+n))=true))then .inl 111
 else if 9223372036854775807<ja 0 (s.extract i (i+n)).data.toList then .inl 105
 else .inr (ja 0 (s.extract i (i+n)).data.toList,n)
def zA(s:ByteArray):Nat→Nat→Option Nat
 |0,_=>none
 |f+1,i=>
  if i<s.size∧Qa (pk s i)=true then
   if pk s i=34 then some (i+1)
   else if pk s i=92 then zA s f (i+2)
   else zA s f (i+1)
  else none
def xH(sub:ByteArray):Nat ⊕ ByteArray:=
 let r:=ze sub 0
 if r.2.1=true∧sub.size≤r.1 then(if 4096≤r.2.2.length then .inl 105 else .inr ⟨r.2.2.toArray⟩)else .inl 111
def jn(s:ByteArray)(i:Nat):List ByteArray→ByteArray→ByteArray
 | [],b=>b
 |x::l,b=>jn s i l (if b.size<x.size∧x.data.toList.isPrefixOf (s.data.toList.drop i)=true then x else b)
def zb(s:ByteArray)(i:Nat)(line:Int):WR:=
 let c:=pk s i
 if zk c=true then
  let n:=run s (fun c=>zk c||qt c) i
  if 32<n∨(i+n<s.size∧zz (pk s (i+n))=true)then .bad 111
  else .word n ⟨if zi.contains (s.extract i (i+n))then 2 else 1,line,s.extract i (i+n),0,0,⟨#[]⟩⟩
 else if qt c=true then
  match jF s i with
  | .inl e=> .bad e
  | .inr (v,n)=> .word n ⟨3,line,⟨#[]⟩,0,v,⟨#[]⟩⟩
 else if zz c=true then
  let n:=run s (fun c=>zz c||c==95) i
  let k:=jI (s.extract i (i+n))
  if k<0∨(i+n<s.size∧(zk (pk s (i+n))=true∨qt (pk s (i+n))=true))then .bad 111
  else .word n ⟨3,line,⟨#[]⟩,3,k,⟨#[]⟩⟩
 else if c=35 then
  let neg:=pk s (i+1)==45
  let j:=if neg then i+2 else i+1
  match jF s j with
  | .inl e=> .bad e
  | .inr (v,n)=>
    if neg=true∧v=0 then .bad 111
    else
     let v:=if neg then-v else v
     if v< -2147483648∨2147483647<v then .bad 105 else .word (j+n-i) ⟨3,line,⟨#[]⟩,1,v,⟨#[]⟩⟩
 else if c=34 then
  match zA s (s.size+1) (i+1)with
  |none=> .bad 111
  |some j=>
   match xH (s.extract i j)with
   | .inl e=> .bad e
   | .inr t=> .word (j-i) ⟨3,line,⟨#[]⟩,2,0,t⟩
 else
  let b:=jn s i zB ⟨#[]⟩
  if b.size=0 then .bad 111 else .word b.size ⟨4,line,b,0,0,⟨#[]⟩⟩
def zT(s:ByteArray):Nat→Nat→Int→List Tok→(Nat×Int) ⊕ List Tok
 |0,_,_,out=> .inr out
 |f+1,i,line,out=>
  if i<s.size then
   if pk s i=10 then zT s f (i+1) (line+1) out
   else if pk s i=32 then zT s f (i+1) line out
   else match zb s i line with
    | .bad c=> .inl (c,line)
    | .word n t=>zT s f (i+n) line (out++ [t])
  else .inr out
def xP(s:ByteArray):(Nat×Int) ⊕ List Tok:=zT s (s.size+1) 0 1 []
section
abbrev Qd:=Tok×(Option Addr×Nat)
def tk7(p:Qd):List Value:= [.int .i64 p.1.kind,.int .i64 p.1.line,.string p.1.s,.int .i64 p.1.k,.int .i64 p.1.n,.string p.1.t,.slice p.2.1 0 p.2.2]
def zW:List Qd→List Value
 | []=> []
 |p::l=>tk7 p++zW l
theorem Zz: ∀(a b:List Qd),zW (a++b)=zW a++zW b
 | [],b=>rfl
 |p::a,b=>by rw[List.cons_append,zW,zW,Zz a b,List.append_assoc]
def LxAt(w:World)(R:Nat)(s:ByteArray)(i:Nat)(line:Int)(v:Value):Prop:=
 w.heap[R]?=some (.cells #[.string s,.int .i64 i,.int .i64 line,v] 83 (0,0))
section
variable {w w' : World} {R : Nat} {s : ByteArray} {i : Nat} {line : Int} {v : Value}
theorem LxAt.lt(h:LxAt w R s i line v):R<w.heap.size:=by
 rcases Nat.lt_or_ge R w.heap.size with a|hge
 ·exact a
 ·unfold LxAt at h;rw[Array.getElem?_eq_none hge]at h;cases h
theorem LxAt.c0(h:LxAt w R s i line v):w.cell? ⟨R,0,none⟩=some (.string s):=cell_of_row w R 0 _ _ _ h
theorem LxAt.c1(h:LxAt w R s i line v):w.cell? ⟨R,1,none⟩=some (.int .i64 i):=cell_of_row w R 1 _ _ _ h
theorem LxAt.c2(h:LxAt w R s i line v):w.cell? ⟨R,2,none⟩=some (.int .i64 line):=cell_of_row w R 2 _ _ _ h
theorem LxAt.c3(h:LxAt w R s i line v):w.cell? ⟨R,3,none⟩=some v:=cell_of_row w R 3 _ _ _ h
theorem LxAt.fr(h:LxAt w R s i line v)(k:Nat):w.frozen? ⟨R,k,none⟩=false:=by unfold LxAt at h;simp[World.frozen?,h]
theorem LxAt.drewN(h:LxAt w R s i line v)(n:Nat):LxAt (w.drewN n) R s i line v:=h
theorem LxAt.drew(h:LxAt w R s i line v):LxAt w.drew R s i line v:=h
theorem LxAt.alloc(h:LxAt w R s i line v)(o:Obj):LxAt (w.alloc o) R s i line v:=(Below.heap_alloc w o R h.lt).trans h
theorem LxAt.set1(h:LxAt w R s i line v)(j:Nat):LxAt (w.setCell ⟨R,1,none⟩ (.int .i64 j)) R s j line v:=by
 unfold LxAt at h⊢;simp[World.setCell,Array.getElem?_modify,h]
theorem LxAt.set2(h:LxAt w R s i line v)(j:Int):LxAt (w.setCell ⟨R,2,none⟩ (.int .i64 j)) R s i j v:=by
 unfold LxAt at h⊢;simp[World.setCell,Array.getElem?_modify,h]
theorem LxAt.set3(h:LxAt w R s i line v)(u:Value):LxAt (w.setCell ⟨R,3,none⟩ u) R s i line u:=by
 unfold LxAt at h⊢;simp[World.setCell,Array.getElem?_modify,h]
theorem LxAt.far(h:LxAt w R s i line v){p:Addr}(hp:R≠p.block)(u:Value):LxAt (w.setCell p u) R s i line v:=(Below.heap_setCell w p u R hp).trans h
theorem LxAt.below{B:Nat}(h:LxAt w R s i line v)(hb:Below B w w')(a:R<B):LxAt w' R s i line v:=(hb.block R a).trans h
theorem LxAt.only(h:LxAt w R s i line v){row:Option Nat}(hg:w.grownBy w' row)(hr:some R≠row):LxAt w' R s i line v:=(hg.block R h.lt hr).trans h
end
def LxSt(w:World)(R:Nat)(s:ByteArray)(i:Nat)(line:Int)(l:List Tok):Prop:=
 ∃(v:Value)(L:List Qd),LxAt w R s i line v∧w.ownsRow (R+1) 55 7 v L.length (zW L)∧L.map (·.1)=l∧L.length≤i∧i≤s.size
theorem LxSt.below_self{w w':World}{R:Nat}{s:ByteArray}{i:Nat}{line:Int}{l:List Tok}(h:LxSt w R s i line l)(hg:Below w.heap.size w w'):LxSt w' R s i line l:=by
 obtain⟨v,L,a,b,c,d,e⟩:=h;refine⟨v,L,a.below hg a.lt,b.kept (xl hg none) ?_,c,d,e⟩
 cases v.ownBlock with
 |none=>exact .inl rfl
 |some k=>exact .inr (by simp)
theorem LxSt.drew{w:World}{R:Nat}{s:ByteArray}{i:Nat}{line:Int}{l:List Tok}(h:LxSt w R s i line l):LxSt w.drew R s i line l:=h.below_self (Below.drew (Below.refl _ _))
theorem LxSt.drewN{w:World}{R:Nat}{s:ByteArray}{i:Nat}{line:Int}{l:List Tok}(h:LxSt w R s i line l)(n:Nat):LxSt (w.drewN n) R s i line l:=h.below_self ⟨rfl,rfl,rfl,Nat.le_refl _,fun _ _=>rfl⟩
theorem LxSt.lt{w:World}{R:Nat}{s:ByteArray}{i:Nat}{line:Int}{l:List Tok}(h:LxSt w R s i line l):R<w.heap.size:=by obtain⟨v,L,a,_⟩:=h;exact a.lt
theorem LxSt.move{w:World}{R:Nat}{s:ByteArray}{i:Nat}{line:Int}{l:List Tok}(h:LxSt w R s i line l)(j:Nat)(f:i≤j)(hs:j≤s.size):LxSt (w.setCell ⟨R,1,none⟩ (.int .i64 j)) R s j line l:=by
 obtain⟨v,L,a,b,c,d,e⟩:=h;refine⟨v,L,a.set1 j,ownsRow_setCell_below b (by show R<R+1;omega) _,c,by omega,hs⟩
theorem LxSt.newline{w:World}{R:Nat}{s:ByteArray}{i:Nat}{line:Int}{l:List Tok}(h:LxSt w R s i line l)(j:Int):LxSt (w.setCell ⟨R,2,none⟩ (.int .i64 j)) R s i j l:=by
 obtain⟨v,L,a,b,c,d,e⟩:=h;exact⟨v,L,a.set2 j,ownsRow_setCell_below b (by show R<R+1;omega) _,c,d,e⟩
theorem kD(c:UInt8)(w:World):Calls Tryz.prog 73 #[.int .u8 c.toNat] w fun e w'=>e= .returned (.bool (zk c))∧w=w':=by
 have a:(((c.toNat:Int)==95)=true∧c=95)∨(((c.toNat:Int)==95)=false∧(c==95)=false):=by
  by_cases e:c=95
  ·subst e;exact .inl ⟨by decide,rfl⟩
  ·refine .inr ⟨?_,by simpa using e⟩
   rw[beq_eq_false_iff_ne];intro h;exact e (UInt8.toNat_inj.1 (by show c.toNat=95;omega))
 by_cases h1:97≤(c.toNat:Int)
 ·by_cases h2:(c.toNat:Int)≤122
  ·have b:=hid (show zk c=true by unfold zk;rw[Bool.or_eq_true,decide_eq_true_eq];exact .inl ⟨by omega,by omega⟩)
   clear a;go_enter Tryz.func73,Tryz.ntmps73
   go_wp2
   go_ret
   exact⟨qw b.out.symm,rfl⟩
  ·have h2':122<(c.toNat:Int):=by omega
   have hd:((c.toNat:Int)==95)=false:=by rw[beq_eq_false_iff_ne];omega
   have b:=hid (show zk c=false by
    unfold zk;rw[Bool.or_eq_false_iff,decide_eq_false_iff_not];refine⟨by omega,?_⟩
    rw[beq_eq_false_iff_ne];rintro rfl;exact absurd h2' (by decide))
   clear a;go_enter Tryz.func73,Tryz.ntmps73
   go_wp2
   go_ret
   exact⟨qw b.out.symm,rfl⟩
 ·have h1':(c.toNat:Int)<97:=by omega
  rcases a with⟨hd,rfl⟩|⟨hd,d⟩
  ·clear h1 h1' hd
   go_enter Tryz.func73,Tryz.ntmps73
   go_wp2
   go_ret
   exact⟨rfl,rfl⟩
  ·have b:=hid (show zk c=false by
    unfold zk;rw[Bool.or_eq_false_iff,decide_eq_false_iff_not]
    exact⟨by omega,d⟩)
   clear d;go_enter Tryz.func73,Tryz.ntmps73
   go_wp2
   go_ret
   exact⟨qw b.out.symm,rfl⟩
theorem xL(c:UInt8)(w:World):Calls Tryz.prog 77 #[.int .u8 c.toNat] w fun e w'=>e= .returned (.bool (zz c))∧w=w':=by
 by_cases h1:65≤(c.toNat:Int)
 ·by_cases h2:(c.toNat:Int)≤90
  ·have a:=hid (show zz c=true from decide_eq_true (by omega))
   go_enter Tryz.func77,Tryz.ntmps77
   go_wp2
   go_ret
   exact⟨qw a.out.symm,rfl⟩
  ·have a:=hid (show zz c=false from decide_eq_false (by omega))
   have h2':90<(c.toNat:Int):=by omega
   go_enter Tryz.func77,Tryz.ntmps77
   go_wp2
   go_ret
   exact⟨qw a.out.symm,rfl⟩
 ·have a:=hid (show zz c=false from decide_eq_false (by omega))
  have h1':(c.toNat:Int)<65:=by omega
  go_enter Tryz.func77,Tryz.ntmps77
  go_wp2
  go_ret
  exact⟨qw a.out.symm,rfl⟩
theorem QG(c:UInt8)(w:World):Calls Tryz.prog 75 #[.int .u8 c.toNat] w fun e w'=>e= .returned (.bool (qt c))∧w=w':=by
 by_cases h1:48≤(c.toNat:Int)
 ·by_cases h2:(c.toNat:Int)≤57
  ·have a:=hid (show qt c=true from decide_eq_true (by omega))
   go_enter Tryz.func75,Tryz.ntmps75
   go_wp2
   go_ret
   exact⟨qw a.out.symm,rfl⟩
  ·have a:=hid (show qt c=false from decide_eq_false (by omega))
   have h2':57<(c.toNat:Int):=by omega
   go_enter Tryz.func75,Tryz.ntmps75
   go_wp2
   go_ret
   exact⟨qw a.out.symm,rfl⟩
 ·have a:=hid (show qt c=false from decide_eq_false (by omega))
  have h1':(c.toNat:Int)<48:=by omega
  go_enter Tryz.func75,Tryz.ntmps75
  go_wp2
  go_ret
  exact⟨qw a.out.symm,rfl⟩
def IsP(g:Nat)(p:UInt8→Bool):Prop:= ∀(c:UInt8)(W:World),Calls Tryz.prog g #[.int .u8 c.toNat] W fun e w'=>e= .returned (.bool (p c))∧W=w'
theorem qce:IsP 75 qt:=QG
theorem qer:IsP 115 (fun c=>zk c||qt c):=by
 intro c w
 cases hs:zk c with
 |true=>
  have S:=hid (kD c w);rw[hs]at S;have a:=hid (show(zk c||qt c)=true by rw[hs];rfl);clear hs;go_enter Tryz.func115,Tryz.ntmps115
  go_wp2_with fail
  refine S.out.mono ?_;rintro e w' ⟨rfl,rfl⟩;go_wp2_with fail
  go_ret
  exact⟨qw a.out.symm,rfl⟩
 |false=>
  have S:=hid (kD c w);have D:=hid (QG c w);rw[hs]at S;have a:=hid (show(zk c||qt c)=qt c by rw[hs];rfl);clear hs;go_enter Tryz.func115,Tryz.ntmps115
  go_wp2_with fail
  refine S.out.mono ?_;rintro e w' ⟨rfl,rfl⟩;go_wp2_with fail
  refine D.out.mono ?_;rintro e w' ⟨rfl,rfl⟩;go_wp2_with fail
  go_ret
  exact⟨qw a.out.symm,rfl⟩
theorem qd6:IsP 121 (fun c=>zz c||c==95):=by
 intro c w
 cases hs:zz c with
 |true=>
  have S:=hid (xL c w);rw[hs]at S;have b:=hid (show(zz c||c==95)=true by rw[hs];rfl);clear hs;go_enter Tryz.func121,Tryz.ntmps121
  go_wp2_with fail
  refine S.out.mono ?_;rintro e w' ⟨rfl,rfl⟩;go_wp2_with fail
  go_ret
  exact⟨qw b.out.symm,rfl⟩
 |false=>
  have S:=hid (xL c w);rw[hs]at S;have b:=hid (show(zz c||c==95)=(c==95)by rw[hs];rfl);clear hs
  have a:((c.toNat:Int)==95)=(c==95):=by
   rw[Bool.eq_iff_iff,beq_iff_eq,beq_iff_eq]
   constructor
   ·intro h;exact UInt8.toNat_inj.1 (by show c.toNat=95;omega)
   ·rintro rfl;rfl
  have H:=hid a;clear a;go_enter Tryz.func121,Tryz.ntmps121
  go_wp2_with fail
  refine S.out.mono ?_;rintro e w' ⟨rfl,rfl⟩;go_wp2_with fail
  go_ret
  exact⟨qw (H.out.trans b.out.symm),rfl⟩
end
theorem JX{s:ByteArray}{p:UInt8→Bool}{f i:Nat}(h:i<s.size)(hp:p (pk s i)=true):xp s p (f+1) i=xp s p f (i+1)+1:=by
 rw[xp,if_pos ⟨h,hp⟩]
theorem JY{s:ByteArray}{p:UInt8→Bool}{f i:Nat}(h:i<s.size→p (pk s i)=false):xp s p f i=0:=by
 cases f with
 |zero=>rfl
 |succ f=>
  rw[xp,if_neg];rintro⟨a,b⟩;rw[h a]at b;cases b
theorem qaH(g:Nat)(p:UInt8→Bool)(q: ∀args w,(callFunc g args).run Tryz.prog w= .ok (.enter g args) w)(hp:IsP g p)(R:Nat)(s:ByteArray)(m:Nat)(line:Int)(v:Value)(i:Nat)(w:World)(h:LxAt w R s m line v)(hi:i≤s.size)(hs:s.size≤1000000000):
 Calls Tryz.prog 114 #[.pointer (some ⟨R,0,none⟩),.int .i64 i,.func (.func g) #[] #[]] w fun e w'=>e= .returned (.int .i64 (run s p i))∧ ∃n,w'=w.drewN n:=by
 have hc:=h.c0;obtain⟨r,hr⟩: ∃r,r=run s p i:=⟨_,rfl⟩
 have j:=hid hr;rw[←hr];clear hr h;go_enter Tryz.func114,Tryz.ntmps114
 go_wp2_with fail
 go_loopg [7] (s.size+1) (fun k o wr=> ∃n:Nat,o= .int .i64 (n:Int)∧i+n≤s.size∧n+k=s.size+1∧w=wr∧Hid (r=n+xp s p k (i+n)))
 case atStart=>exact⟨0,rfl,by omega,by omega,rfl,by rw[j.out];unfold run;rw[Nat.zero_add];rfl⟩
 case round=>
  obtain⟨n,rfl,hn,hk,rfl,c⟩:=hrel;by_cases b:i+n<s.size
  ·obtain⟨k,rfl⟩: ∃k,gk=k+1:=⟨gk-1,by omega⟩
   have a:=qK s (i+n) b;have hlt':((i:Int)+(n:Int))<(s.size:Int):=by omega
   cases hb:p (pk s (i+n))with
   |true=>
    have d:=hid (c.out.trans (by rw[JX b hb]));have C:=fun W=>hp (pk s (i+n)) W;rw[hb,a]at C;have f:=hid C;clear c hb a C;go_wp2_with fail
    refine(f.out _).mono ?_;rintro e w' ⟨rfl,rfl⟩;go_wp2_with fail
    go_roundg k
    case measure=>omega
    case rel=>exact⟨n+1,by go_num,by omega,by omega,rfl,by rw[d.out,show i+(n+1)=i+n+1 from by omega];show _=_;omega⟩
   |false=>
    have d:=hid (c.out.trans (by rw[JY (fun _=>hb)]));have C:=fun W=>hp (pk s (i+n)) W;rw[hb,a]at C;have f:=hid C;clear c hb a C;go_wp2_with fail
    refine(f.out _).mono ?_;rintro e w' ⟨rfl,rfl⟩;go_wp2_with fail
    go_ret
    exact⟨zm (by rw[d.out];rfl),0,rfl⟩
  ·have d:=hid (c.out.trans (by rw[JY (fun h=>absurd h b)]))
   clear c;have l:(s.size:Int)≤(i:Int)+(n:Int):=by omega
   go_wp2_with fail
   go_ret
   exact⟨zm (by rw[d.out];rfl),0,rfl⟩
theorem zK(R:Nat)(s:ByteArray)(i:Nat)(line:Int)(v:Value)(a:Addr)(w:World)(h:LxAt w R s i line v):
 Calls Tryz.prog 116 #[.pointer (some ⟨R,0,none⟩),.iface 270 (.pointer (some a))] w fun e w'=>e= .returned (.iface 70 (.pointer (some ⟨w.heap.size,0,none⟩)))∧w.alloc (.cells #[.int .i64 line,.iface 270 (.pointer (some a))] 73)=w':=by
 have hc:=h.c2;clear h;go_enter Tryz.func116,Tryz.ntmps116
 go_wp2_with fail
 go_ret
 exact⟨rfl,rfl⟩
theorem qdy:(Tryz.prog.info? 55).map (fun i=>(i.zero,i.size,i.bytes))=some (some (.agg #[.int .i64 0,.int .i64 0,.string ⟨#[]⟩,.int .i64 0,.int .i64 0,.string ⟨#[]⟩,.slice none 0 0]),7,88):=by kernel_rfl
theorem qgT(w:World)(o:Obj)(a b c d e f g:Value)(T:Nat): ∀j u,[a,b,c,d,e,f,g][j]?=some u→((w.alloc o).alloc (.cells #[a,b,c,d,e,f,g] T)).cell? ((⟨w.heap.size+1,0,none⟩:Addr).add j)=some u:=
 World.news_of_block (cs:= #[a,b,c,d,e,f,g]) (by have:=heap_alloc_new (w.alloc o) (.cells #[a,b,c,d,e,f,g] T);rw[World.size_alloc]at this;exact this)
theorem qhq(a b c d:Int)(s t:ByteArray)(sa:Option Addr)(n sc:Nat): ∀u∈ [Value.int .i64 a,.int .i64 b,.string s,.int .i64 c,.int .i64 d,.string t,.slice sa n sc],u.oneCell'=true:=by
 intro u e;simp at e;rcases e with rfl|rfl|rfl|rfl|rfl|rfl|rfl<;>rfl
theorem qfN(w:World)(o:Obj)(a b c d e f g:Value)(T:Nat): ∀j u,[a,b,c,d,e,f,g][j]?=some u→((w.alloc o).alloc (.cells #[a,b,c,d,e,f,g] T)).drew.cell? ((⟨w.heap.size+1,0,none⟩:Addr).add j)=some u:=fun j u h=>qgT w o a b c d e f g T j u h
theorem qgY{w:World}{a e b n:Nat}{v:Value}{xs:List Value}(h:w.ownsRow a e b v n xs)(o o':Obj):((w.alloc o).alloc o').drew.ownsRow a e b v n xs:=(h.alloc o).alloc o'
theorem LxAt.grown2{w c:World}{R:Nat}{s:ByteArray}{i:Nat}{line:Int}{v:Value}{e b n:Nat}{xs:List Value}{o o':Obj}(ha:LxAt w R s i line v)(a:w.ownsRow (R+1) e b v n xs)
 (hg:((w.alloc o).alloc o').drew.grownBy c v.ownBlock):LxAt c R s i line v:=
 LxAt.only (w:=((w.alloc o).alloc o').drew) ((ha.alloc o).alloc o') hg (fun e=>by have:=(a.lt R e.symm).1;omega)
theorem qeR{w m j:World}{R:Nat}{s:ByteArray}{i n:Nat}{line:Int}{v:Value}{l:List Tok}{L:List Qd}{t:Tok}{sa:Option Addr}{sc g cap:Nat}
 (ha:LxAt w R s i line v) (hl:L.map (·.1)=l) (o:L.length≤i) (h1:1≤n) (hn:i+n≤s.size) (c:w.ownsRow (R+1) 55 7 v L.length (zW L)) (d:Below w.heap.size w m)
 (h:j.ownsRow (R+1) 55 7 (.slice (some ⟨g,0,none⟩) (L.length+1) cap) (L.length+1) (zW L++ [.int .i64 t.kind,.int .i64 line,.string t.s,.int .i64 t.k,.int .i64 t.n,.string t.t,.slice sa 0 sc]))
 (b:m.grownBy j v.ownBlock):
 Below R w ((j.setCell ⟨R,3,none⟩ (.slice (some ⟨g,0,none⟩) (L.length+1) cap)).setCell ⟨R,1,none⟩ (.int .i64 ((i+n:Nat):Int)))∧
 LxSt ((j.setCell ⟨R,3,none⟩ (.slice (some ⟨g,0,none⟩) (L.length+1) cap)).setCell ⟨R,1,none⟩ (.int .i64 ((i+n:Nat):Int))) R s (i+n) line (l++ [{t with line:=line}]):=by
 have hb: ∀k,v.ownBlock=some k→R+1≤k:=fun k hk=>(c.lt k hk).1;have p:some R≠v.ownBlock:=fun e=>by have:=hb R e.symm;omega
 have f:=ha.lt;have h1':LxAt j R s i line v:=(ha.below d f).only b p;refine⟨?_,.slice (some ⟨g,0,none⟩) (L.length+1) cap,L++ [({t with line:=line},sa,sc)],(h1'.set3 _).set1 _,?_,?_,?_,hn⟩
 ·refine Below.setCell (Below.setCell (Below.grown (qc d (Nat.le_of_lt f)) b ?_ (fun k hk=>by have:=hb k hk;omega)) (Nat.le_refl _) _) (Nat.le_refl _) _
  have:=d.size;omega
 ·rw[Zz]
  have:=ownsRow_setCell_below (ownsRow_setCell_below h (a:=⟨R,3,none⟩) (by show R<R+1;omega) (.slice (some ⟨g,0,none⟩) (L.length+1) cap)) (a:=⟨R,1,none⟩) (by show R<R+1;omega) (.int .i64 ((i+n:Nat):Int));rw[List.length_append];exact this
 ·rw[List.map_append,hl];rfl
 ·rw[List.length_append];show L.length+1≤i+n;omega
theorem xD(R:Nat)(s:ByteArray)(i:Nat)(line:Int)(l:List Tok)(w:World)(h:LxSt w R s i line l)(n:Nat)(h1:1≤n)(hn:i+n≤s.size)(hs:s.size≤1000000000)(t:Tok)(d:Int)(sa:Option Addr)(sc:Nat):
 Calls Tryz.prog 119 #[.pointer (some ⟨R,0,none⟩),.int .i64 n,.agg #[.int .i64 t.kind,.int .i64 d,.string t.s,.int .i64 t.k,.int .i64 t.n,.string t.t,.slice sa 0 sc]] w fun e w'=>
  e= .returned (.tuple #[])∧Below R w w'∧LxSt w' R s (i+n) line (l++ [{t with line:=line}]):=by
 obtain⟨v,L,ha,b,hl,o,H⟩:=h;obtain⟨z,A,rfl⟩:=xg b;have C:=ha.c1;have D:=ha.c2;have E:=ha.c3;have F:=ha.fr 1;have G:=ha.fr 3;have I:=ha.lt;obtain⟨J,p,q,r,u⟩:=info_parts qdy;have j:=hid ha;have y:=hid hl;have f:=hid b;clear ha hl b;go_enter Tryz.func119,Tryz.ntmps119
 go_wp2_with fail
 go_region_law ((refine step_append_lies _ (by rfl) (.tmp 15) (.tmp 17) 50 (by rfl) (R+1) 55 J _ 7 88 Tryz.underlying50 p q r u rfl (by decide) (.slice z L.length A) L.length (zW L) (by rfl) (qgY f.out _ _) ⟨w.heap.size+1,0,none⟩ 1 1 [.int .i64 t.kind,.int .i64 line,.string t.s,.int .i64 t.k,.int .i64 t.n,.string t.t,.slice sa 0 sc] (by rfl) rfl (qfN _ _ _ _ _ _ _ _ _ _) (qhq _ _ _ _ _ _ _ _ _) (by decide) (by unfold maxLen;omega) (by omega) (by simp;omega) _ rfl ?_;intro g cap P c a B x;have O:=(j.out.grown2 f.out a).c3;have N:=(j.out.grown2 f.out a).c1;have M:=(j.out.grown2 f.out a).fr 3;have K:=(j.out.grown2 f.out a).fr 1))
 all_goals
  go_wp2_with fail
  go_end0
  have m:=qeR j.out y.out o h1 hn f.out (((Below.refl _ _).alloc (Nat.le_refl _) _).alloc (by simp) _).drew c a;rw[show((i+n:Nat):Int)=(i:Int)+(n:Int)from by omega]at m;exact⟨rfl,m.1,m.2⟩
section
open Go.Sort
theorem Ja{a b:List (List UInt8)}(hp:b.Perm a)(hs:b.Pairwise (fun x y=>decide (x≤y)=true)):a.mergeSort (fun x y=>decide (x≤y))=b:=by
 have h1:(a.mergeSort (fun x y=>decide (x≤y))).Perm b:=(List.mergeSort_perm a _).trans hp.symm;refine List.Perm.eq_of_pairwise (le:=fun x y:List UInt8=>decide (x≤y)=true) ?_ ?_ hs h1
 ·intro x y _ _ h1 h2
  exact List.le_antisymm (of_decide_eq_true h1) (of_decide_eq_true h2)
 ·refine List.pairwise_mergeSort ?_ ?_ a
  ·intro x y z h1 h2;exact decide_eq_true (List.le_trans (of_decide_eq_true h1) (of_decide_eq_true h2))
  ·intro x y
   rw[Bool.or_eq_true];rcases List.le_total x y with h|h
   ·exact .inl (decide_eq_true h)
   ·exact .inr (decide_eq_true h)
def StrsAt(w:World)(g:Nat)(l:List ByteArray):Prop:= ∀j,j<l.length→w.cell? ⟨g,0+j,none⟩=some (.string (l.getD j ByteArray.empty))
theorem StrsAt.below{w w':World}{g:Nat}{l:List ByteArray}{B:Nat}(h:StrsAt w g l)(hb:Below B w w')(hg:g<B):StrsAt w' g l:=fun j a=>(hb.cell (p:=⟨g,0+j,none⟩) hg).trans (h j a)
theorem JZ{w w':World}{g n:Nat}{os:Array Obj}{ss:List (List UInt8)}{l:List ByteArray}(e:Holds encStr w g 0 ss.toArray)(hg:g<w.heap.size)
 (hl:ss.mergeSort (fun x y=>decide (x≤y))=l.map (·.data.toList)) (d:w'=grow (putRow encStr (Sort.ahead w n) g 0 (ss.mergeSort fun x y=>decide (x≤y)).toArray) os):
 StrsAt w' g l∧Below g w w':=by
 have c:(ss.mergeSort fun x y=>decide (x≤y)).toArray.size=ss.toArray.size:=by simp
 have f:=holds_putRow encStr (Sort.ahead w n) g 0 ss.toArray (ss.mergeSort fun x y=>decide (x≤y)).toArray (holds_ahead _ _ _ _ _ _ e) c
 have b:g<(putRow encStr (Sort.ahead w n) g 0 (ss.mergeSort fun x y=>decide (x≤y)).toArray).heap.size:=by
  have:(putRow encStr (Sort.ahead w n) g 0 (ss.mergeSort fun x y=>decide (x≤y)).toArray).heap.size=w.heap.size:=by unfold putRow mapBlock Sort.ahead;simp
  omega
 have hg':=holds_grow encStr _ os g 0 _ b f;rw[←d]at hg';refine⟨fun j a=> ?_,?_⟩
 ·have:=(hg' j (by rw[hl];simpa using a)).1
  rw[this,hl]
  congr 1
  unfold encStr
  congr 1
  rw[List.getElem!_toArray];rw[getElem!_pos _ _ (by simpa using a),List.getElem_map,List.getD_eq_getElem?_getD,List.getElem?_eq_getElem a];rfl
 ·rw[d]
  refine⟨rfl,rfl,rfl,?_,fun k hk=> ?_⟩
  ·unfold grow putRow mapBlock Sort.ahead;simp
  ·unfold grow putRow mapBlock Sort.ahead
   simp only;rw[Array.getElem?_append_left (by simp;omega),Array.getElem?_modify,if_neg (by omega)]
def Zj:List UInt8:= [105,102,32,101,108,115,101,105,102,32,101,108,115,101,32,101,110,100,105,102,32,102,111,114,32,105,110,32,101,110,100,102,111,114,32,119,104,105,108,101,32,101,110,100,119,104,105,108,101,32,98,114,101,97,107,32,99,111,110,116,105,110,117,101,32,114,101,116,117,114,110,32,102,111,114,107,32,101,110,100,102,111,114,107,32,116,114,121,32,101,120,99,101,112,116,32,102,105,110,97,108,108,121,32,101,110,100,116,114,121,32,97,110,121]
def kX:List (List UInt8):= [[105,102],[101,108,115,101,105,102],[101,108,115,101],[101,110,100,105,102],[102,111,114],[105,110],[101,110,100,102,111,114],[119,104,105,108,101],[101,110,100,119,104,105,108,101],[98,114,101,97,107],[99,111,110,116,105,110,117,101],[114,101,116,117,114,110],[102,111,114,107],[101,110,100,102,111,114,107],[116,114,121],[101,120,99,101,112,116],[102,105,110,97,108,108,121],[101,110,100,116,114,121],[97,110,121]]
def Qy:List UInt8:= [40,32,41,32,123,32,125,32,91,32,93,32,44,32,59,32,46,32,58,32,33,32,63,32,124,32,61,32,43,32,45,32,42,32,47,32,37,32,60,32,62,32,64,32,39,32,36,32,61,61,32,33,61,32,60,61,32,62,61,32,38,38,32,124,124,32,61,62,32,46,46]
def xw:List (List UInt8):= [[40],[41],[123],[125],[91],[93],[44],[59],[46],[58],[33],[63],[124],[61],[43],[45],[42],[47],[37],[60],[62],[64],[39],[36],[61,61],[33,61],[60,61],[62,61],[38,38],[124,124],[61,62],[46,46]]
theorem Kr:Lib.fields Zj=kX:=by decide+kernel
theorem Kb:Lib.fields Qy=xw:=by decide+kernel
theorem Ks:kX.mergeSort (fun x y=>decide (x≤y))=zi.map (·.data.toList):=Ja (List.isPerm_iff.1 (by decide+kernel)) (by decide+kernel)
theorem Kc:(xw++ [[96]]).mergeSort (fun x y=>decide (x≤y))=zB.map (·.data.toList):=Ja (List.isPerm_iff.1 (by decide+kernel)) (by decide+kernel)
theorem JJ{l:List UInt8}(h:l.all (fun b=>decide (b.toNat<128))=true): ∀(j:Nat) b,l[j]?=some b→b.toNat<128:=fun j b hb=>
 of_decide_eq_true (List.all_eq_true.1 h b (List.mem_of_getElem? hb))
abbrev xI (w:World):Prop:=Lib.TabIs Tryz.prog w "strings.asciiSpace" .u8 Lib.asciiSpaceTab
theorem XI(w:World)(a:xI w):Calls Tryz.prog 154 #[.string ⟨Zj.toArray⟩] w fun e w'=>
 e= .returned (.slice (some ⟨w.heap.size,0,none⟩) 19 19)∧w.alloc (.cells (kX.map fun l=>Value.string ⟨l.toArray⟩).toArray 9)=w':=by
 refine(Tryz.strings_Fields_laid ⟨Zj.toArray⟩ w (by decide) (JJ (l:=Zj) (by decide+kernel)) a).mono ?_;rintro e w' ⟨rfl,rfl⟩;rw[show(⟨Zj.toArray⟩:ByteArray).data.toList=Zj from rfl,Kr];exact⟨rfl,rfl⟩
theorem Xe(w:World)(a:xI w):Calls Tryz.prog 154 #[.string ⟨Qy.toArray⟩] w fun e w'=>
 e= .returned (.slice (some ⟨w.heap.size,0,none⟩) 32 32)∧w.alloc (.cells (xw.map fun l=>Value.string ⟨l.toArray⟩).toArray 9)=w':=by
 refine(Tryz.strings_Fields_laid ⟨Qy.toArray⟩ w (by decide) (JJ (l:=Qy) (by decide+kernel)) a).mono ?_;rintro e w' ⟨rfl,rfl⟩;rw[show(⟨Qy.toArray⟩:ByteArray).data.toList=Qy from rfl,Kb];exact⟨rfl,rfl⟩
theorem qbb(w:World)(ss:List (List UInt8)):Holds encStr (w.alloc (.cells (ss.map fun l=>Value.string ⟨l.toArray⟩).toArray 9)) w.heap.size 0 ss.toArray:=by
 intro j a;have hb:=heap_alloc_new w (.cells (ss.map fun l=>Value.string ⟨l.toArray⟩).toArray 9);refine⟨?_,by unfold World.frozen?;rw[hb];simp⟩;rw[Nat.zero_add,cell_of_row _ _ j _ _ _ hb];have hj':j<ss.length:=by simpa using a
 simp[hj',encStr]
theorem ZY(w:World)(k:xI w):Calls Tryz.prog 118 #[] w fun e w'=>
 ∃g,e= .returned (.slice (some ⟨g,0,none⟩) 19 19)∧g<w'.heap.size∧StrsAt w' g zi∧Below w.heap.size w w':=by
 have d:=hid (XI w k);obtain⟨w1,a⟩: ∃w1,w1=w.alloc (.cells (kX.map fun l=>Value.string ⟨l.toArray⟩).toArray 9):=⟨_,rfl⟩
 have c:Holds encStr w1 w.heap.size 0 kX.toArray:=by rw[a];exact qbb w kX
 have hz:w.heap.size<w1.heap.size:=by rw[a];simp
 have hb:Below w.heap.size w w1:=by rw[a];exact(Below.refl _ _).alloc (Nat.le_refl _) _
 have SC:=hid (Tryz.slices_Sort_string w.heap.size 0 19 kX w1 c hz (by decide));rw[show kX.length=19 from rfl]at SC;rw[←a]at d;have j:=hid c;have h:=hid hb;clear c hb a;go_enter Tryz.func118,Tryz.ntmps118
 go_wp2_with fail
 refine d.out.mono ?_;rintro e w2 ⟨rfl,rfl⟩;go_wp2_with fail
 refine SC.out.mono ?_;rintro e w2 ⟨rfl,n,os,f⟩;have b:=hid (JZ j.out hz Ks f);clear f;go_wp2_with fail
 go_ret
 exact⟨_,rfl,Nat.lt_of_lt_of_le hz b.out.2.size,b.out.1,h.out.trans b.out.2⟩
theorem qbl:(Tryz.prog.info? 9).map (fun i=>(i.zero,i.size,i.bytes))=some (some (.string ⟨#[]⟩),1,16):=by kernel_rfl
theorem qbc{w:World}{a g n cap:Nat}{ss:List (List UInt8)}(h:w.ownsRow a 9 1 (.slice (some ⟨g,0,none⟩) n cap) n (ss.map fun l=>Value.string ⟨l.toArray⟩)):Holds encStr w g 0 ss.toArray:=by
 intro j k;have hj':j<ss.length:=by simpa using k
 have hc:=h.cells (g:=g) rfl j (.string ⟨(ss[j]).toArray⟩) (by simp[hj']);have b:(⟨g,0,none⟩:Addr).add j=⟨g,j,none⟩:=by unfold Addr.add;split<;>simp_all
 rw[b]at hc;refine⟨by rw[Nat.zero_add,hc];simp[hj',encStr],?_⟩;rcases h.2 with⟨e,_⟩|⟨m,c,d,e,_,f,_⟩
 ·cases e
 ·injection e with e _ _;injection e with e;injection e with e _ _;subst e
  unfold World.frozen?;rw[f];simp
theorem qeE(w:World)(ss:List (List UInt8))(hm:ss.length≤maxLen):(w.alloc (.cells (ss.map fun l=>Value.string ⟨l.toArray⟩).toArray 9)).ownsRow w.heap.size 9 1 (.slice (some ⟨w.heap.size,0,none⟩) ss.length ss.length) ss.length (ss.map fun l=>Value.string ⟨l.toArray⟩):=
 ⟨by simp,.inr ⟨w.heap.size,ss.length,_,rfl,Nat.le_refl _,heap_alloc_new w _,Nat.le_refl _,hm,by simp,by simp only[Nat.mul_one];exact List.take_of_length_le (by simp)⟩⟩
theorem qe8(w:World)(F:xI w):Calls Tryz.prog 124 #[] w fun e w'=>
 ∃g cap,e= .returned (.slice (some ⟨g,0,none⟩) 33 cap)∧w.heap.size≤g∧g<w'.heap.size∧StrsAt w' g zB∧Below w.heap.size w w':=by
 obtain⟨H,p,r,t,x⟩:=info_parts qbl;have y:=hid (Xe w F);obtain⟨w1,c⟩: ∃w1,w1=w.alloc (.cells (xw.map fun l=>Value.string ⟨l.toArray⟩).toArray 9):=⟨_,rfl⟩
 have z:w1.ownsRow w.heap.size 9 1 (.slice (some ⟨w.heap.size,0,none⟩) 32 32) 32 (xw.map fun l=>Value.string ⟨l.toArray⟩):=by rw[c];exact qeE w xw (by decide)
 have hz:w.heap.size<w1.heap.size:=by rw[c];simp
 have hb:Below w.heap.size w w1:=by rw[c];exact(Below.refl _ _).alloc (Nat.le_refl _) _
 rw[←c]at y;have E:=hid z;have C:=hid hb;clear z hb c;go_enter Tryz.func124,Tryz.ntmps124
 go_wp2_with fail
 refine y.out.mono ?_;rintro e w2 ⟨rfl,rfl⟩
 go_wp2_with (at_builtin;refine wpList_append_own_at _ rfl (.tmp 3) (.tmp 4) 23 rfl w.heap.size 9 H _ 1 16 Tryz.underlying23 p r t x rfl (by decide) (.slice (some ⟨w.heap.size,0,none⟩) 32 32) 32 _ rfl (E.out.alloc _) ⟨w1.heap.size,0,none⟩ 1 1 [.string ⟨#[96]⟩] rfl rfl ?c1 ?c2 ?c3 ?c4 ?c5 ?_
              case c1=>exact World.news_of_block (cs:= #[.string ⟨#[96]⟩]) (heap_alloc_new w1 _)
              case c2=>intro u B;simp at B;subst B;rfl
              case c3=>decide
              case c4=>decide
              case c5=>simp;omega
              intro v' w3 b a _ q;have f:=hid b;have m:=hid a
              clear b a q)
 obtain⟨g,cap,hv,h,j⟩:=f.out.form (by decide);subst hv;have d:Holds encStr w3 g 0 (xw++ [[96]]).toArray:=qbc (ss:=xw++ [[96]]) (by rw[List.map_append];exact f.out);have SC:=hid (Tryz.slices_Sort_string g 0 cap (xw++ [[96]]) w3 d j (by decide));have D:=hid d;rw[show(xw++([[96]]:List (List UInt8))).length=33 from rfl]at SC;clear d;go_wp2_with fail
 refine SC.out.mono ?_;rintro e I ⟨rfl,n,os,A⟩;have o:=hid (JZ D.out j Kc A);have G:w3.heap.size≤I.heap.size:=o.out.2.size;clear A;go_wp2_with fail
 go_ret
 exact⟨g,cap,rfl,h,by omega,o.out.1,(Below.grown (C.out.alloc (by omega) _) m.out (by simp;omega) (fun k hk=>by injection hk with hk;subst hk;exact Nat.le_refl _)).trans (qc o.out.2 h)⟩
end
theorem Zd{a b:ByteArray}(h:a.data.toList=b.data.toList):a=b:=by
 rcases a with⟨⟨a⟩⟩;rcases b with⟨⟨b⟩⟩
 simp only at h;rw[h]
def xn(c:UInt8):Bool:=(decide (97≤c) && decide (c≤122))||(decide (48≤c) && decide (c≤57))||c==95
def zD(s:ByteArray):Bool:=
 decide (1≤s.size) && decide (s.size≤32) && !(decide (48≤s.data.toList.getD 0 0) && decide (s.data.toList.getD 0 0≤57)) && s.data.toList.all xn && !zi.contains s
def jV(op:Int):Bool:=decide (1≤op) && decide (op≤29) && op !=26
def qi(op:Int):Nat→Bool
 |0=>jV op
 |1=>jV op||op==26
 |2=>op==2||op==22||op==20
 |3=>op==2
 |4=>op==2||op==26
 |5=>op==25
 |6=>op==52
 |8=>op==50
 |_=>decide (40≤op) && decide (op≤51) && op !=50
def jW(op:Int):Bool×Bool:=if op=2∨op=24∨op=42∨op=43 then(true,false)else if op=50 then(true,true)else(false,false)
def kL(op:Int):Bool:=op==42||op==43||op==44
def jt(op:Int)(s:ByteArray)(k n:Int)(t:ByteArray)(v:VL)(m:Nat)(c:Nat)(b:Bool):Nat:=
 let a:=qi op c && (b||(op !=45 && op !=46)) &&
  (if op=1 then k !=4 && (qM k n t v 1 4096).1==0 && (k !=0||n != -9223372036854775808)else k==0 && n==0 && t.size==0 && v.len==0)
 if !a|| !(qk op m).2||(!(jW op).1 && s.size !=0)then 1
 else if(jW op).1 && !zD s && !((jW op).2 && s.size==0)then 2
 else 0
def zp(op:Int)(m:Nat)(a:Nat)(b:Bool)(j:Nat):Nat×Bool:=
 let r:=if a=5 then 0 else if a=2∧op=20∧j=0 then 2 else if a=4∧op=26 then 3 else(qk op m).1.getD j 0
 (r,(b && op !=48)||(kL op && r==6))
def zf:NL→(Nat→Nat×Bool)→Nat→Option (Int×Nat)
 | .nil,_,_=>none
 | .cons op ln s k n t v sub r,f,i=>
   if jt op s k n t v sub.len (f i).1 (f i).2≠0 then some (ln,jt op s k n t v sub.len (f i).1 (f i).2)
   else match zf sub (zp op sub.len (f i).1 (f i).2) 0 with
    |some e=>some e
    |none=>zf r f (i+1)
def zG(l:NL)(a:Nat):Bool:=decide (l.tot≤4096) && decide (l.deep≤40) && (zf l (fun _=>(a,false)) 0).isNone
theorem J4: ∀(a b:NL)(f:Nat→Nat×Bool)(i:Nat),zf (a.app b) f i=(match zf a f i with|some e=>some e|none=>zf b f (i+a.len))
 | .nil,b,f,i=>by simp[NL.app,zf,NL.len]
 | .cons op ln s k n t v sub r,b,f,i=>by
   rw[NL.app,zf,zf];by_cases h:jt op s k n t v sub.len (f i).1 (f i).2≠0
   ·rw[if_pos h,if_pos h]
   ·rw[if_neg h,if_neg h]
    cases zf sub (zp op sub.len (f i).1 (f i).2) 0 with
    |some e=>rfl
    |none=>
     simp only[];rw[J4 r b f (i+1),NL.len,show i+1+r.len=i+(r.len+1)from by omega]
structure NTx where
 b:List UInt8
 lo:Bool
 nm:List UInt8
 cd:List UInt8
instance:Inhabited NTx:=⟨⟨[],false,[],[]⟩⟩
def brk(l:List UInt8):List UInt8:=40::(l++ [41])
def ku(x:NTx):List UInt8:=if x.lo then brk x.b else x.b
def rowT(l:List NTx):List UInt8:=Lib.join (l.map (·.b)) [44,32]
def qfs(l:List NTx):List UInt8:=if l.length=0 then [97,110,121]else rowT l
def qdV(op:Int):List UInt8:=
 if op<5∨18<op then []else([[43],[45],[42],[47],[37],[61,61],[33,61],[60],[60,61],[62],[62,61],[105,110],[38,38],[124,124]]:List (List UInt8)).getD (op-5).toNat []
def qbk(op k n:Int):Bool:=
 if op=1 then(k==0||k==1) && decide (n<0)else if op=19∨op=27∨op=28 then true else decide (3≤op) && decide (op≤18)
def qgN(op:Int)(s a:List UInt8)(l:List NTx):List UInt8:=
 let g:=fun i=>l.getD i default
 if op=1 then a
 else if op=2 then s
 else if op=3 then(if 48≤(ku (g 0)).getD 0 0∧(ku (g 0)).getD 0 0≤57 then 45::brk (ku (g 0))else 45::ku (g 0))
 else if op=4 then 33::ku (g 0)
 else if op=19 then ku (g 0)++ [32,63,32]++ku (g 1)++ [32,124,32]++ku (g 2)
 else if op=20 then ku (g 0)++ [91]++(g 1).b++ [93]
 else if op=21 then ku (g 0)++ [91]++(g 1).b++ [46,46]++(g 2).b++ [93]
 else if op=22 then ku (g 0)++ [46]++(g 1).nm
 else if op=23 then ku (g 0)++ [58]++(g 1).nm++ [40]++rowT (l.drop 2)++ [41]
 else if op=24 then s++ [40]++rowT l++ [41]
 else if op=25 then [123]++rowT l++ [125]
 else if op=26 then 64::(g 0).b
 else if op=27 then(g 0).b++ [32,61,32]++(g 1).b
 else if op=28 then [123]++rowT (l.take (l.length-1))++ [125,32,61,32]++(g (l.length-1)).b
 else if op=29 then [96]++ku (g 0)++ [32,33,32]++(g 1).cd++(if 2<l.length then [32,61,62,32]++ku (g 2)else [])++ [39]
 else ku (g 0)++ [32]++qdV op++ [32]++ku (g 1)
def qax(op:Int)(s:ByteArray)(k n:Int)(t:ByteArray)(v:VL)(l:List NTx):NTx:=
 let b:=qgN op s.data.toList (ZN k n t (qdD v)) l
 ⟨b,qbk op k n,if op=1∧k=2∧zD t=true then t.data.toList else brk b,qfs l⟩
def ntx:NL→List NTx
 | .nil=> []
 | .cons op _ s k n t v sub r=>qax op s k n t v (ntx sub)::ntx r
def xb(d:Nat)(s:List UInt8):List UInt8:=List.replicate (2*d) 32++s++ [10]
structure STx where
 x:NTx
 st:List UInt8
 bk:List UInt8
 ex:List UInt8
instance:Inhabited STx:=⟨⟨default,[],[],[]⟩⟩
def qfE(d:Nat):List UInt8→List STx→List UInt8
 |w,c::b::r=>xb d (w++ [32,40]++c.x.b++ [41])++b.bk++qfE d [101,108,115,101,105,102] r
 |_,[b]=>xb d [101,108,115,101]++b.bk++xb d [101,110,100,105,102]
 |_,[]=>xb d [101,110,100,105,102]
def Qo(d:Nat)(head b a:List UInt8):List UInt8:=xb d head++b++xb d a
def qdX(d:Nat)(op:Int)(s:List UInt8)(l:List STx):List UInt8:=
 let g:=fun i=>l.getD i default
 if op=40 then xb d ((g 0).x.b++ [59])
 else if op=45 then xb d [98,114,101,97,107,59]
 else if op=46 then xb d [99,111,110,116,105,110,117,101,59]
 else if op=47 then xb d ([114,101,116,117,114,110]++(if 0<l.length then 32::(g 0).x.b else [])++ [59])
 else if op=41 then qfE d [105,102] l
 else if op=42 then Qo d ([102,111,114,32]++s++ [32,105,110,32,40]++(g 0).x.b++ [41]) (g 1).bk [101,110,100,102,111,114]
 else if op=43 then Qo d ([102,111,114,32]++s++ [32,105,110,32,91]++(g 0).x.b++ [46,46]++(g 1).x.b++ [93]) (g 2).bk [101,110,100,102,111,114]
 else if op=44 then Qo d ([119,104,105,108,101,32,40]++(g 0).x.b++ [41]) (g 1).bk [101,110,100,119,104,105,108,101]
 else if op=48 then Qo d ([102,111,114,107,32,40]++(g 0).x.b++ [41]) (g 1).bk [101,110,100,102,111,114,107]
 else if op=49 then xb d [116,114,121]++(g 0).bk++((l.drop 1).map (·.ex)).flatten++xb d [101,110,100,116,114,121]
 else if op=51 then xb d [116,114,121]++(g 0).bk++Qo d [102,105,110,97,108,108,121] (g 1).bk [101,110,100,116,114,121]
 else []
def exT(d:Nat)(s:List UInt8)(l:List STx):List UInt8:=
 xb d ([101,120,99,101,112,116,32]++(if s.length≠0 then s++ [32]else [])++ [40]++(l.getD 0 default).x.cd++ [41])++(l.getD 1 default).bk
def Kg:NL→Nat→List STx
 | .nil,_=> []
 | .cons op _ s k n t v sub r,d=>
   ⟨qax op s k n t v (ntx sub),qdX d op s.data.toList (Kg sub d),((Kg sub (d+1)).map (·.st)).flatten,exT d s.data.toList (Kg sub d)⟩::Kg r d
def NL.lines(a:Int→Int):NL→NL
 | .nil=> .nil
 | .cons op ln s k n t v sub r=> .cons op (a ln) s k n t v sub (r.lines a)
def ExN:NL→Prop
 | .nil=>True
 | .cons op _ s k n t v sub r=>(1≤op∧op≤29)∧(qk op sub.len).2=true∧(op=1→(qM k n t v 1 4096).1=0∧(zv k n t v).i64∧(zv k n t v).fit)∧(op=2→1≤s.size)∧s.size≤32∧ExN sub∧ExN r
theorem ExN.drop: ∀(i:Nat)(l:NL),ExN l→ExN (l.drop i)
 |0,l,h=>by rw[NL.drop];exact h
 |i+1,.nil,h=>h
 |i+1,.cons _ _ _ _ _ _ _ _ r,h=>ExN.drop i r h.2.2.2.2.2.2
def Zb(x:NTx)(z:Nat):Prop:=x.b.length+40≤z∧x.nm.length+40≤z∧x.cd.length+40≤z
def ZL:List NTx→Nat→Prop
 | [],_=>True
 |x::r,z=> ∃a b,Zb x a∧ZL r b∧a+b≤z
theorem ZL.mono: ∀{l:List NTx}{z c:Nat},ZL l z→z≤c→ZL l c
 | [],_,_,_,_=>trivial
 |_::_,_,_,⟨a,b,h1,h2,h3⟩,hz=>⟨a,b,h1,h2,Nat.le_trans h3 hz⟩
theorem ZL.row: ∀{l:List NTx}{z:Nat},ZL l z→((l.map (·.b)).map fun x=>x.length+2).sum≤z
 | [],_,_=>Nat.zero_le _
 |x::r,z,⟨a,b,h1,h2,h3⟩=>by
  have:=ZL.row h2;have:=h1.1;simp only[List.map_cons,List.sum_cons];omega
theorem ZL.rowT{l:List NTx}{z:Nat}(h:ZL l z):(rowT l).length≤z:=Nat.le_trans (qcq _) h.row
theorem ZL.drop: ∀(i:Nat){l:List NTx}{z:Nat},ZL l z→ZL (l.drop i) z
 |0,_,_,h=>h
 |i+1,[],_,_=>trivial
 |i+1,x::r,z,⟨a,b,h1,h2,h3⟩=>ZL.drop i (h2.mono (by omega))
theorem ZL.app: ∀{l m:List NTx}{z:Nat},ZL (l++m) z→ ∃a b,ZL l a∧ZL m b∧a+b≤z
 | [],m,z,h=>⟨0,z,trivial,h,by omega⟩
 |x::r,m,z,⟨a,b,h1,h2,h3⟩=>by
  obtain⟨c,d,h4,h5,h6⟩:=ZL.app h2;exact⟨a+c,d,⟨a,c,h1,h4,Nat.le_refl _⟩,h5,by omega⟩
end Go.Proofs.YtggngahmafbihaaGreatDoor
