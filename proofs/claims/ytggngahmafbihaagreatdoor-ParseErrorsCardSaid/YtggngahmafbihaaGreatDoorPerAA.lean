/- Contracts, and the plain mathematics beneath. -/
import Derived.Below
import Derived.Laws.OwnMore
import Derived.Laws.Rows
import Derived.Deep.Draws
import Derived.Test.YtggngahmafbihaaGreatDoorProg
import Derived.WalkKit
import Derived.WalkSpells
import Derived.Lib.Hide
import Derived.BigQuiet
import Derived.Deep.QuietTactic
import Derived.RegionTactic
import Derived.BigRegion
import Derived.Outline
import Derived.Deep.LoopGhost
import Derived.IntWalk
import Derived.Laws.AppendOwn
import Derived.OwnWalk
import Derived.Laws.IdiomStrings
import Derived.Laws.BytesArg
import Derived.Handy
import Derived.Lib.ItoaMem
import Derived.Lib.ItoaLen
import Derived.Lib.ParseIntBCases
import Derived.Lib.ParseIntBTie
set_option linter.unusedVariables false
set_option linter.unusedSimpArgs false
set_option maxRecDepth 100000
set_option maxHeartbeats 1000000
namespace Go.Proofs.YtggngahmafbihaaGreatDoor
open Go.RowKit Go.Lib
inductive VL where
 |nil:VL
 |cons (k n:Int) (s:ByteArray) (sub:VL) (rest:VL):VL
namespace VL
def len:VL→Nat
 | .nil=>0
 | .cons _ _ _ _ r=>r.len+1
def app:VL→VL→VL
 | .nil,b=>b
 | .cons k n s sub r,b=> .cons k n s sub (r.app b)
theorem app_nil: ∀a:VL,a.app .nil=a
 | .nil=>rfl
 | .cons k n s sub r=>by rw[app,app_nil r]
theorem app_assoc: ∀a b c:VL,(a.app b).app c=a.app (b.app c)
 | .nil,_,_=>rfl
 | .cons k n s sub r,b,c=>by rw[app,app,app,app_assoc r]
theorem len_app: ∀a b:VL,(a.app b).len=a.len+b.len
 | .nil,b=>by simp[app,len]
 | .cons k n s sub r,b=>by simp[app,len,len_app r];omega
def take:Nat→VL→VL
 |0,_=> .nil
 |_+1,.nil=> .nil
 |i+1,.cons k n s sub r=> .cons k n s sub (r.take i)
def drop:Nat→VL→VL
 |0,l=>l
 |_+1,.nil=> .nil
 |i+1,.cons _ _ _ _ r=>r.drop i
theorem drop_len: ∀l:VL,l.drop l.len= .nil
 | .nil=>rfl
 | .cons k n s sub r=>by rw[len,drop,drop_len r]
theorem take_len: ∀l:VL,l.take l.len=l
 | .nil=>rfl
 | .cons k n s sub r=>by rw[len,take,take_len r]
theorem len_drop: ∀(i:Nat)(l:VL),(l.drop i).len=l.len-i
 |0,l=>by rw[drop];rfl
 |i+1,.nil=>by simp[drop,len]
 |i+1,.cons k n s sub r=>by rw[drop,len_drop i r,len];omega
theorem drop_of_lt: ∀(i:Nat)(l:VL),i<l.len→ ∃k n s sub,l.drop i= .cons k n s sub (l.drop (i+1))
 |_,.nil,h=>by simp[len]at h
 |0,.cons k n s sub r,_=>⟨k,n,s,sub,by rw[drop,drop,drop]⟩
 |i+1,.cons k n s sub r,h=>by
  rw[len]at h;obtain⟨k',n',s',sub',e⟩:=drop_of_lt i r (by omega);exact⟨k',n',s',sub',by rw[drop,drop,e]⟩
theorem take_succ: ∀(i:Nat)(l:VL)(k n:Int)(s:ByteArray)(sub:VL),l.drop i= .cons k n s sub (l.drop (i+1))→l.take (i+1)=(l.take i).app (.cons k n s sub .nil)
 |0,.nil,k,n,s,sub,h=>by simp[drop]at h
 |0,.cons k n s sub r,k',n',s',sub',h=>by
  simp only[drop]at h;injection h with h1 h2 h3 h4 _
  subst h1;subst h2;subst h3;subst h4;simp[take,app]
 |i+1,.nil,k,n,s,sub,h=>by simp[drop]at h
 |i+1,.cons k0 n0 s0 sub0 r,k,n,s,sub,h=>by
  rw[drop,drop]at h;rw[take,take_succ i r k n s sub h,take,app]
end VL
def RpL(w:World)(S:Nat→Prop):VL→Option Addr→Prop
 | .nil,_=>True
 | .cons k n s sub rest,A=> ∃(b o:Nat)(sa:Option Addr)(sc:Nat),A=some ⟨b,o,none⟩∧S b∧
  w.cell? ⟨b,o,none⟩=some (.int .i64 k)∧w.cell? ⟨b,o+1,none⟩=some (.int .i64 n)∧w.cell? ⟨b,o+2,none⟩=some (.string s)∧
  w.cell? ⟨b,o+3,none⟩=some (.slice sa sub.len sc)∧sub.len≤sc∧RpL w S sub sa∧RpL w S rest (some ⟨b,o+4,none⟩)
theorem RpL.keep{w w':World}{S S':Nat→Prop}(c: ∀b,S b→w'.heap[b]?=w.heap[b]?)(a: ∀b,S b→S' b): ∀(l:VL)(A:Option Addr),RpL w S l A→RpL w' S' l A
 | .nil,_,_=>trivial
 | .cons k n s sub rest,A,⟨b,o,sa,sc,hA,hb,h0,h1,h2,h3,hc,hs,hr⟩=>by
   have hk: ∀p:Addr,p.block=b→w'.cell? p=w.cell? p:=fun p hp=>World.cell?_of_block (w:=w) (c p.block (by rw[hp];exact hb));exact⟨b,o,sa,sc,hA,a b hb,(hk _ rfl).trans h0,(hk _ rfl).trans h1,(hk _ rfl).trans h2,(hk _ rfl).trans h3,hc,RpL.keep c a sub sa hs,RpL.keep c a rest _ hr⟩
theorem RpL.below{w w':World}{S:Nat→Prop}{B:Nat}{l:VL}{A:Option Addr}(h:RpL w S l A)(hb:Below B w w')(c: ∀b,S b→b<B):RpL w' S l A:=
 h.keep (fun b a=>hb.block b (c b a)) (fun _ h=>h)
theorem RpL.grown{w w':World}{S:Nat→Prop}{R:Option Nat}{l:VL}{A:Option Addr}(h:RpL w S l A)(hb:w.grownBy w' R)(c: ∀b,S b→b<w.heap.size∧some b≠R):RpL w' S l A:=
 h.keep (fun b a=>hb.block b (c b a).1 (c b a).2) (fun _ h=>h)
theorem RpL.wide{w:World}{S S':Nat→Prop}{l:VL}{A:Option Addr}(h:RpL w S l A)(a: ∀b,S b→S' b):RpL w S' l A:=h.keep (fun _ _=>rfl) a
theorem RpL.drop{w:World}{S:Nat→Prop}: ∀(i:Nat)(l:VL)(b o:Nat),RpL w S l (some ⟨b,o,none⟩)→RpL w S (l.drop i) (some ⟨b,o+4*i,none⟩)
 |0,l,b,o,h=>by rw[VL.drop];exact h
 |i+1,.nil,_,_,_=>by rw[VL.drop];trivial
 |i+1,.cons k n s sub r,b,o,⟨b',o',sa,sc,hA,_,_,_,_,_,_,_,hr⟩=>by
  injection hA with hA
  injection hA with h1 h2
  subst h1;subst h2;have:=RpL.drop i r b (o+4) hr;rw[VL.drop];rw[show o+4*(i+1)=o+4+4*i from by omega];exact this
inductive NL where
 |nil:NL
 |cons (op ln:Int) (s:ByteArray) (k n:Int) (t:ByteArray) (v:VL) (sub:NL) (rest:NL):NL
namespace NL
def len:NL→Nat
 | .nil=>0
 | .cons _ _ _ _ _ _ _ _ r=>r.len+1
def app:NL→NL→NL
 | .nil,b=>b
 | .cons op ln s k n t v sub r,b=> .cons op ln s k n t v sub (r.app b)
theorem app_nil: ∀a:NL,a.app .nil=a
 | .nil=>rfl
 | .cons op ln s k n t v sub r=>by rw[app,app_nil r]
theorem app_assoc: ∀a b c:NL,(a.app b).app c=a.app (b.app c)
 | .nil,_,_=>rfl
 | .cons op ln s k n t v sub r,b,c=>by rw[app,app,app,app_assoc r]
theorem len_app: ∀a b:NL,(a.app b).len=a.len+b.len
 | .nil,b=>by simp[app,len]
 | .cons op ln s k n t v sub r,b=>by simp[app,len,len_app r];omega
def take:Nat→NL→NL
 |0,_=> .nil
 |_+1,.nil=> .nil
 |i+1,.cons op ln s k n t v sub r=> .cons op ln s k n t v sub (r.take i)
def drop:Nat→NL→NL
 |0,l=>l
 |_+1,.nil=> .nil
 |i+1,.cons _ _ _ _ _ _ _ _ r=>r.drop i
theorem drop_len: ∀l:NL,l.drop l.len= .nil
 | .nil=>rfl
 | .cons op ln s k n t v sub r=>by rw[len,drop,drop_len r]
theorem take_len: ∀l:NL,l.take l.len=l
 | .nil=>rfl
 | .cons op ln s k n t v sub r=>by rw[len,take,take_len r]
theorem len_drop: ∀(i:Nat)(l:NL),(l.drop i).len=l.len-i
 |0,l=>by rw[drop];rfl
 |i+1,.nil=>by simp[drop,len]
 |i+1,.cons op ln s k n t v sub r=>by rw[drop,len_drop i r,len];omega
theorem drop_of_lt: ∀(i:Nat)(l:NL),i<l.len→ ∃op ln s k n t v sub,l.drop i= .cons op ln s k n t v sub (l.drop (i+1))
 |_,.nil,h=>by simp[len]at h
 |0,.cons op ln s k n t v sub r,_=>⟨op,ln,s,k,n,t,v,sub,by rw[drop,drop,drop]⟩
 |i+1,.cons op ln s k n t v sub r,h=>by
  rw[len]at h;obtain⟨op',ln',s',k',n',t',v',sub',e⟩:=drop_of_lt i r (by omega);exact⟨op',ln',s',k',n',t',v',sub',by rw[drop,drop,e]⟩
theorem take_succ: ∀(i:Nat)(l:NL)(op ln:Int)(s:ByteArray)(k n:Int)(t:ByteArray)(v:VL)(sub:NL),l.drop i= .cons op ln s k n t v sub (l.drop (i+1))→l.take (i+1)=(l.take i).app (.cons op ln s k n t v sub .nil)
 |0,.nil,op,ln,s,k,n,t,v,sub,h=>by simp[drop]at h
 |0,.cons op ln s k n t v sub r,op',ln',s',k',n',t',v',sub',h=>by
  simp only[drop]at h;injection h with h1 h2 h3 h4 h5 h6 h7 h8 _
  subst h1;subst h2;subst h3;subst h4;subst h5;subst h6;subst h7;subst h8;simp[take,app]
 |i+1,.nil,op,ln,s,k,n,t,v,sub,h=>by simp[drop]at h
 |i+1,.cons op0 ln0 s0 k0 n0 t0 v0 sub0 r,op,ln,s,k,n,t,v,sub,h=>by
  rw[drop,drop]at h;rw[take,take_succ i r op ln s k n t v sub h,take,app]
end NL
def RpN(w:World)(S:Nat→Prop):NL→Option Addr→Prop
 | .nil,_=>True
 | .cons op ln s k n t v sub rest,A=> ∃(b o:Nat)(va:Option Addr)(vc:Nat)(sa:Option Addr)(sc:Nat),A=some ⟨b,o,none⟩∧S b∧
  w.cell? ⟨b,o,none⟩=some (.int .i64 op)∧w.cell? ⟨b,o+1,none⟩=some (.int .i64 ln)∧w.cell? ⟨b,o+2,none⟩=some (.string s)∧
  w.cell? ⟨b,o+3,none⟩=some (.int .i64 k)∧w.cell? ⟨b,o+4,none⟩=some (.int .i64 n)∧w.cell? ⟨b,o+5,none⟩=some (.string t)∧
  w.cell? ⟨b,o+6,none⟩=some (.slice va v.len vc)∧v.len≤vc∧RpL w S v va∧
  w.cell? ⟨b,o+7,none⟩=some (.slice sa sub.len sc)∧sub.len≤sc∧RpN w S sub sa∧RpN w S rest (some ⟨b,o+8,none⟩)
theorem RpN.keep{w w':World}{S S':Nat→Prop}(c: ∀b,S b→w'.heap[b]?=w.heap[b]?)(a: ∀b,S b→S' b): ∀(l:NL)(A:Option Addr),RpN w S l A→RpN w' S' l A
 | .nil,_,_=>trivial
 | .cons op ln s k n t v sub rest,A,⟨b,o,va,vc,sa,sc,hA,hb,h0,h1,h2,h3,h4,h5,h6,hv,hvr,h7,hc,hs,hr⟩=>by
   have hk: ∀p:Addr,p.block=b→w'.cell? p=w.cell? p:=fun p hp=>World.cell?_of_block (w:=w) (c p.block (by rw[hp];exact hb));exact⟨b,o,va,vc,sa,sc,hA,a b hb,(hk _ rfl).trans h0,(hk _ rfl).trans h1,(hk _ rfl).trans h2,(hk _ rfl).trans h3,(hk _ rfl).trans h4,(hk _ rfl).trans h5,(hk _ rfl).trans h6,hv,RpL.keep c a v va hvr,(hk _ rfl).trans h7,hc,RpN.keep c a sub sa hs,RpN.keep c a rest _ hr⟩
theorem RpN.below{w w':World}{S:Nat→Prop}{B:Nat}{l:NL}{A:Option Addr}(h:RpN w S l A)(hb:Below B w w')(c: ∀b,S b→b<B):RpN w' S l A:=
 h.keep (fun b a=>hb.block b (c b a)) (fun _ h=>h)
theorem RpN.grown{w w':World}{S:Nat→Prop}{R:Option Nat}{l:NL}{A:Option Addr}(h:RpN w S l A)(hb:w.grownBy w' R)(c: ∀b,S b→b<w.heap.size∧some b≠R):RpN w' S l A:=
 h.keep (fun b a=>hb.block b (c b a).1 (c b a).2) (fun _ h=>h)
theorem RpN.wide{w:World}{S S':Nat→Prop}{l:NL}{A:Option Addr}(h:RpN w S l A)(a: ∀b,S b→S' b):RpN w S' l A:=h.keep (fun _ _=>rfl) a
theorem RpN.drop{w:World}{S:Nat→Prop}: ∀(i:Nat)(l:NL)(b o:Nat),RpN w S l (some ⟨b,o,none⟩)→RpN w S (l.drop i) (some ⟨b,o+8*i,none⟩)
 |0,l,b,o,h=>by rw[NL.drop];exact h
 |i+1,.nil,_,_,_=>by rw[NL.drop];trivial
 |i+1,.cons op ln s k n t v sub r,b,o,⟨b',o',va,vc,sa,sc,hA,_,_,_,_,_,_,_,_,_,_,_,_,_,hr⟩=>by
  injection hA with hA
  injection hA with h1 h2
  subst h1;subst h2;have:=RpN.drop i r b (o+8) hr;rw[NL.drop];rw[show o+8*(i+1)=o+8+8*i from by omega];exact this
section
theorem qw{a b:Bool}(h:a=b):Ending.returned (.bool a)= .returned (.bool b):=by rw[h]
theorem zm{k:IntKind}{a b:Int}(h:a=b):Ending.returned (.int k a)= .returned (.int k b):=by rw[h]
def RdAt(w:World)(R:Nat)(s:ByteArray)(i:Nat)(ok:Bool):Prop:=
 w.heap[R]?=some (.cells #[.string s,.int .i64 i,.bool ok] 181 (0,0))
section
variable {w w' : World} {R : Nat} {s : ByteArray} {i : Nat} {ok : Bool}
theorem RdAt.lt(h:RdAt w R s i ok):R<w.heap.size:=by
 rcases Nat.lt_or_ge R w.heap.size with a|hge
 ·exact a
 ·unfold RdAt at h;rw[Array.getElem?_eq_none hge]at h;cases h
theorem RdAt.c0(h:RdAt w R s i ok):w.cell? ⟨R,0,none⟩=some (.string s):=cell_of_row w R 0 _ _ _ h
theorem RdAt.c1(h:RdAt w R s i ok):w.cell? ⟨R,1,none⟩=some (.int .i64 i):=cell_of_row w R 1 _ _ _ h
theorem RdAt.c2(h:RdAt w R s i ok):w.cell? ⟨R,2,none⟩=some (.bool ok):=cell_of_row w R 2 _ _ _ h
theorem RdAt.fr(h:RdAt w R s i ok)(k:Nat):w.frozen? ⟨R,k,none⟩=false:=by unfold RdAt at h;simp[World.frozen?,h]
theorem RdAt.drewN(h:RdAt w R s i ok)(n:Nat):RdAt (w.drewN n) R s i ok:=h
theorem RdAt.set1(h:RdAt w R s i ok)(j:Nat):RdAt (w.setCell ⟨R,1,none⟩ (.int .i64 j)) R s j ok:=by
 unfold RdAt at h⊢;simp[World.setCell,Array.getElem?_modify,h]
theorem RdAt.set2(h:RdAt w R s i ok)(b:Bool):RdAt (w.setCell ⟨R,2,none⟩ (.bool b)) R s i b:=by
 unfold RdAt at h⊢;simp[World.setCell,Array.getElem?_modify,h]
end
def pk(s:ByteArray)(i:Nat):UInt8:=s.data.toList.getD i 0
theorem qK(s:ByteArray)(i:Nat)(h:i<s.size):pk s i=s[i]:=by
 unfold pk;rw[List.getD_eq_getElem?_getD,List.getElem?_eq_getElem (by simpa using h)];rfl
theorem Qv(s:ByteArray)(i:Nat)(h: ¬i<s.size):pk s i=0:=by
 unfold pk;rw[List.getD_eq_getElem?_getD,List.getElem?_eq_none (by simpa using h)];rfl
theorem xv(R:Nat)(s:ByteArray)(i:Nat)(ok:Bool)(w:World)(h:RdAt w R s i ok):
 Calls Tryz.prog 185 #[.pointer (some ⟨R,0,none⟩)] w fun e w'=>e= .returned (.int .u8 (pk s i).toNat)∧ ∃n,w'=w.drewN n:=by
 have h0:=h.c0;have h1:=h.c1;clear h;by_cases hi:i<s.size
 ·have hp:=hid (qK s i hi)
  go_enter Tryz.func185,Tryz.ntmps185
  go_wp2
  go_quiet (fail)
  go_wp2
  go_quiet (fail)
  go_wp2
  go_ret
  exact⟨zm (by rw[hp.out]),_,World.drewN_drewN _ _ _⟩
 ·have hp:=hid (Qv s i hi)
  go_enter Tryz.func185,Tryz.ntmps185
  go_wp2
  go_quiet (fail)
  go_wp2
  go_ret
  exact⟨zm (by rw[hp.out];rfl),_,rfl⟩
def qt(c:UInt8):Bool:=decide (48≤c.toNat∧c.toNat≤57)
theorem qd8(c:UInt8)(w:World):
 Calls Tryz.prog 188 #[.int .u8 c.toNat] w fun e w'=>e= .returned (.bool (qt c))∧w=w':=by
 by_cases h1:48≤(c.toNat:Int)
 ·by_cases h2:(c.toNat:Int)≤57
  ·have a:=hid (show qt c=true from decide_eq_true (by omega))
   go_enter Tryz.func188,Tryz.ntmps188
   go_wp2
   go_ret
   exact⟨qw a.out.symm,rfl⟩
  ·have a:=hid (show qt c=false from decide_eq_false (by omega))
   have h2':57<(c.toNat:Int):=by omega
   go_enter Tryz.func188,Tryz.ntmps188
   go_wp2
   go_ret
   exact⟨qw a.out.symm,rfl⟩
 ·have a:=hid (show qt c=false from decide_eq_false (by omega))
  have h1':(c.toNat:Int)<48:=by omega
  go_enter Tryz.func188,Tryz.ntmps188
  go_wp2
  go_ret
  exact⟨qw a.out.symm,rfl⟩
def zQ(s:ByteArray)(i:Nat)(ok:Bool)(c:UInt8):Bool:=ok && decide (i<s.size) && pk s i==c
def zS(s:ByteArray)(i:Nat)(ok:Bool)(c:UInt8):Nat:=if zQ s i ok c then i+1 else i
structure Rds (w w':World) (R:Nat) (s:ByteArray) (i:Nat) (ok:Bool):Prop where
 at_:RdAt w' R s i ok
 grown:w.grownBy w' (some R)
theorem Z4{a w:World}{row:Option Nat}(h:a.grownBy w row)(n:Nat):a.grownBy (w.drewN n) row:=⟨h.os,h.tape,h.output,h.size,h.block⟩
theorem qJ{a w:World}{g:Nat}(h:a.grownBy w (some g)){p:Addr}(hp:p.block=g∨a.heap.size≤p.block)(u:Value):a.grownBy (w.setCell p u) (some g):=
 ⟨h.os,h.tape,h.output,by simpa[World.setCell]using h.size,fun i hi b=>(Below.heap_setCell w p u i (by
  rintro rfl;rcases hp with hp|hp
  ·exact b (by rw[hp])
  ·omega)).trans (h.block i hi b)⟩
section
variable {w w' : World} {R : Nat} {s : ByteArray} {i : Nat} {ok : Bool}
theorem RdAt.drew(h:RdAt w R s i ok):RdAt w.drew R s i ok:=h
theorem qbs{a w:World}{row:Option Nat}(h:a.grownBy w row):a.grownBy w.drew row:=⟨h.os,h.tape,h.output,h.size,h.block⟩
theorem jo(w:World)(row:Option Nat):w.grownBy w row:=⟨rfl,rfl,rfl,Nat.le_refl _,fun _ _ _=>rfl⟩
theorem zt{a b c:World}{row:Option Nat}(h:a.grownBy b row)(k:b.grownBy c row):a.grownBy c row:=
 ⟨k.os.trans h.os,k.tape.trans h.tape,k.output.trans h.output,Nat.le_trans h.size k.size,fun i hi hn=>(k.block i (Nat.lt_of_lt_of_le hi h.size) hn).trans (h.block i hi hn)⟩
theorem xl{a w:World}(h:Below a.heap.size a w)(row:Option Nat):a.grownBy w row:=⟨h.os,h.tape,h.output,h.size,fun i hi _=>h.block i hi⟩
theorem Rds.of(h:RdAt w R s i ok):Rds w w R s i ok:=⟨h,jo _ _⟩
theorem Rds.trans{a w2 w3:World}{j k:Nat}{b c:Bool}(h:Rds a w2 R s j b)(g:Rds w2 w3 R s k c):Rds a w3 R s k c:=⟨g.at_,zt h.grown g.grown⟩
theorem Rds.drew{a w2:World}(h:Rds a w2 R s i ok):Rds a w2.drew R s i ok:=⟨h.at_,qbs h.grown⟩
theorem Rds.drewN{a w2:World}(h:Rds a w2 R s i ok)(n:Nat):Rds a (w2.drewN n) R s i ok:=⟨h.at_,Z4 h.grown n⟩
theorem Rds.set1{a w2:World}(h:Rds a w2 R s i ok)(j:Nat):Rds a (w2.setCell ⟨R,1,none⟩ (.int .i64 j)) R s j ok:=⟨h.at_.set1 j,qJ h.grown (.inl rfl) _⟩
theorem Rds.set2{a w2:World}(h:Rds a w2 R s i ok)(b:Bool):Rds a (w2.setCell ⟨R,2,none⟩ (.bool b)) R s i b:=⟨h.at_.set2 b,qJ h.grown (.inl rfl) _⟩
end
theorem xz(R:Nat)(s:ByteArray)(i:Nat)(ok:Bool)(c:UInt8)(w:World)(h:RdAt w R s i ok)(hs:s.size≤1000000000):
 Calls Tryz.prog 224 #[.pointer (some ⟨R,0,none⟩),.int .u8 c.toNat] w fun e w'=>e= .returned (.tuple #[])∧Rds w w' R s (zS s i ok c) (zQ s i ok c):=by
 have h0:=h.c0;have h1:=h.c1;have h2:=h.c2;have f:=h.fr 2;have d:=h.fr 1;have H:=hid h;clear h
 cases ok with
 |false=>
  have e1:zQ s i false c=false:=rfl;have e2:zS s i false c=i:=rfl;rw[e1,e2];clear e1 e2;go_enter Tryz.func224,Tryz.ntmps224
  go_wp2
  go_region
  go_wp2
  go_end0
  exact⟨rfl,((Rds.of H.out).set2 false).drew⟩
 |true=>
  by_cases hi:i<s.size
  ·have hp:=qK s i hi
   have a:zQ s i true c=(pk s i==c):=by simp[zQ,hi]
   by_cases hc:pk s i=c
   ·have e1:zQ s i true c=true:=by rw[a,hc];simp
    have e2:zS s i true c=i+1:=by unfold zS;rw[e1];rfl
    rw[e1,e2];have b:((s[i].toNat:Int)==(c.toNat:Int))=true:=by rw[←hp,hc];simp
    clear a e1 e2 hp hc;go_enter Tryz.func224,Tryz.ntmps224
    go_wp2
    go_region
    go_wp2
    go_end0
    exact⟨rfl,(((Rds.of H.out).set2 true).set1 (i+1)).drew⟩
   ·have e1:zQ s i true c=false:=by rw[a];simpa using hc
    have e2:zS s i true c=i:=by unfold zS;rw[e1];rfl
    rw[e1,e2]
    have b:((s[i].toNat:Int)==(c.toNat:Int))=false:=by
     rw[←hp,beq_eq_false_iff_ne];intro e;exact hc (UInt8.toNat_inj.1 (by omega))
    clear a e1 e2 hp hc;go_enter Tryz.func224,Tryz.ntmps224
    go_wp2
    go_region
    go_wp2
    go_end0
    exact⟨rfl,((Rds.of H.out).set2 false).drew⟩
  ·have e1:zQ s i true c=false:=by simp[zQ,hi]
   have e2:zS s i true c=i:=by unfold zS;rw[e1];rfl
   rw[e1,e2];clear e1 e2;go_enter Tryz.func224,Tryz.ntmps224
   go_wp2
   go_region
   go_wp2
   go_end0
   exact⟨rfl,((Rds.of H.out).set2 false).drew⟩
end
def zx(s:ByteArray)(b a:Int)(neg:Bool):Nat→Nat→Int→Nat×Bool×Int
 |0,i,n=>(i,true,n)
 |f+1,i,n=>
  if qt (pk s i)then
   if n< -922337203685477580∨10*n< -9223372036854775808+((pk s i).toNat-48:Int)∨(neg=true∧10*n-((pk s i).toNat-48:Int)<b)∨(neg=false∧10*n-((pk s i).toNat-48:Int)< -a)then(i,false,0)
   else zx s b a neg f (i+1) (10*n-((pk s i).toNat-48:Int))
  else(i,true,n)
def qfM(r:Nat×Bool×Int):Nat×Bool×Int:=(r.1,r.2.1,if r.2.1 then-r.2.2 else 0)
def qW(s:ByteArray)(b a:Int)(i:Nat):Nat×Bool×Int:=
 if pk s i=45 then
  if qt (pk s (i+1))=false∨pk s (i+1)=48 then(i+1,false,0)
  else zx s b a true (s.size+1) (i+1) 0
 else if pk s i=48 then(i+1,true,0)
 else if qt (pk s i)=false then(i,false,0)
 else qfM (zx s b a false (s.size+1) i 0)
theorem Jr{s:ByteArray}{i:Nat}(h:qt (pk s i)=true):i<s.size:=by
 rcases Nat.lt_or_ge i s.size with hi|hi
 ·exact hi
 ·rw[Qv s i (by omega)]at h;exact absurd h (by decide)
theorem ZV{c:UInt8}(h:qt c=true):48≤c.toNat∧c.toNat≤57:=by simpa[qt]using h
theorem kM(s:ByteArray)(b a:Int)(neg:Bool)(f i:Nat)(n:Int)(h:qt (pk s i)=true)
 (hg: ¬(n< -922337203685477580∨10*n< -9223372036854775808+((pk s i).toNat-48:Int)∨(neg=true∧10*n-((pk s i).toNat-48:Int)<b)∨(neg=false∧10*n-((pk s i).toNat-48:Int)< -a))):
 zx s b a neg (f+1) i n=zx s b a neg f (i+1) (10*n-((pk s i).toNat-48:Int)):=by
 rw[zx,if_pos h,if_neg hg]
theorem Qg(s:ByteArray)(b a:Int)(neg:Bool)(f i:Nat)(n:Int)(h:qt (pk s i)=true)
 (hg:n< -922337203685477580∨10*n< -9223372036854775808+((pk s i).toNat-48:Int)∨(neg=true∧10*n-((pk s i).toNat-48:Int)<b)∨(neg=false∧10*n-((pk s i).toNat-48:Int)< -a)):
 zx s b a neg (f+1) i n=(i,false,0):=by
 rw[zx,if_pos h,if_pos hg]
theorem Qh(s:ByteArray)(b a:Int)(neg:Bool)(f i:Nat)(n:Int)(h:qt (pk s i)=false):zx s b a neg (f+1) i n=(i,true,n):=by
 rw[zx,if_neg (by rw[h];decide)]
theorem xK(c:UInt8)(x:Int)(hx:x=c.toNat)(w:World):Calls Tryz.prog 188 #[.int .u8 x] w fun e w'=>e= .returned (.bool (qt c))∧w=w':=by
 subst hx;exact qd8 c w
theorem qaz(R:Nat)(s:ByteArray)(i:Nat)(d a:Int)(w:World)(h:RdAt w R s i true)(hs:s.size≤1000000000)
 (hl1: -9223372036854775808≤d) (hl2:d≤0) (g:pk s i=45):
 Calls Tryz.prog 187 #[.pointer (some ⟨R,0,none⟩),.int .i64 d,.int .i64 a] w fun e w'=>
  e= .returned (.int .i64 (qW s d a i).2.2)∧Rds w w' R s (qW s d a i).1 (qW s d a i).2.1:=by
 have hi:i<s.size:=by
  rcases Nat.lt_or_ge i s.size with hi|hi
  ·exact hi
  ·rw[Qv s i (by omega)]at g;cases g
 have Z:((pk s i).toNat:Int)=45:=by rw[g];rfl
 have V:((pk s i).toNat==45)=true:=by rw[g];rfl
 have A:=hid (fun W D=>xv R s i true W D);have tk:=fun W D=>xz R s i true 45 W D hs;have e1:zQ s i true 45=true:=by simp[zQ,hi,g]
 have e2:zS s i true 45=i+1:=by unfold zS;rw[e1];rfl
 rw[e1,e2]at tk;have T:=hid tk;have o:=hid (fun W D=>xv R s (i+1) true W D);clear tk e1 e2;by_cases hb:qt (pk s (i+1))=false∨pk s (i+1)=48
 ·have G:=hid (show qW s d a i=(i+1,false,0)by unfold qW;rw[if_pos g,if_pos hb])
  have C:=fun W=>xK (pk s (i+1)) _ rfl W
  cases hd:qt (pk s (i+1))with
  |false=>
   rw[hd]at C;have DG:=hid C;obtain⟨c0,r⟩: ∃c:Nat,c=(pk s i).toNat:=⟨_,rfl⟩
   obtain⟨c1,t⟩: ∃c:Nat,c=(pk s (i+1)).toNat:=⟨_,rfl⟩
   rw[←r]at A Z V;rw[←t]at o DG;clear hb C g hd r t;go_enter Tryz.func187,Tryz.ntmps187
   go_wp2_with fail
   refine(A.out _ h).mono ?_;rintro e w1 ⟨rfl,E,rfl⟩;go_wp2_with fail
   refine(T.out _ (h.drewN E)).mono ?_;rintro e w2 ⟨rfl,b⟩;go_wp2_with fail
   refine(o.out _ b.at_).mono ?_;rintro e w3 ⟨rfl,J,rfl⟩;have k2:((c1:Int)==48)=true∨((c1:Int)==48)=false:=by cases((c1:Int)==48)<;>simp
   have g2:=b.at_.fr 2;have g3:=b.at_.c2;have x:=hid b;clear b;rcases k2 with k2|k2
   all_goals
    go_wp2_with fail
    refine(o.out _ (x.out.at_.drewN J)).mono ?_;rintro e w4 ⟨rfl,X,rfl⟩;go_wp2_with fail
    refine(DG.out _).mono ?_;rintro e w5 ⟨rfl,rfl⟩;go_wp2_with fail
    go_ret
    rw[G.out];exact⟨zm rfl,(((Rds.of h).drewN E).trans (x.out.drewN _)).set2 false⟩
  |true=>
   have z:pk s (i+1)=48:=by
    rcases hb with e|e
    ·rw[hd]at e;cases e
    ·exact e
   rw[hd]at C
   have DG:=hid (show ∀W,Calls Tryz.prog 188 #[.int .u8 48] W fun e w'=>e= .returned (.bool true)∧W=w' from fun W=>by
    have:=C W;rw[z]at this
    exact this)
   have H:=hid (show ∀W,RdAt W R s (i+1) true→Calls Tryz.prog 185 #[.pointer (some ⟨R,0,none⟩)] W fun e w'=>e= .returned (.int .u8 48)∧ ∃n,w'=W.drewN n from fun W D=>by
    have:=o.out W D;rw[z]at this
    exact this)
   obtain⟨c0,r⟩: ∃c:Nat,c=(pk s i).toNat:=⟨_,rfl⟩
   rw[←r]at A Z V;clear hb z C g hd r o;go_enter Tryz.func187,Tryz.ntmps187
   go_wp2_with fail
   refine(A.out _ h).mono ?_;rintro e w1 ⟨rfl,E,rfl⟩;go_wp2_with fail
   refine(T.out _ (h.drewN E)).mono ?_;rintro e w2 ⟨rfl,b⟩;go_wp2_with fail
   refine(H.out _ b.at_).mono ?_;rintro e w3 ⟨rfl,J,rfl⟩;have g2:=b.at_.fr 2;have g3:=b.at_.c2;have x:=hid b;clear b;go_wp2_with fail
   refine(H.out _ (x.out.at_.drewN J)).mono ?_;rintro e w4 ⟨rfl,X,rfl⟩;go_wp2_with fail
   refine(DG.out _).mono ?_;rintro e w5 ⟨rfl,rfl⟩;go_wp2_with fail
   refine(H.out _ (x.out.at_.drewN _)).mono ?_;rintro e w6 ⟨rfl,n6,rfl⟩;go_wp2_with fail
   go_ret
   rw[G.out];exact⟨zm rfl,(((Rds.of h).drewN E).trans (x.out.drewN _)).set2 false⟩
 ·have G:=hid (show qW s d a i=zx s d a true (s.size+1) (i+1) 0 by unfold qW;rw[if_pos g,if_neg hb])
  have L:qt (pk s (i+1))=true:=by
   cases hd:qt (pk s (i+1))with
   |true=>rfl
   |false=>exact absurd (.inl hd) hb
  have z: ¬pk s (i+1)=48:=fun e=>hb (.inr e);have p2:((pk s (i+1)).toNat:Int)≠48:=fun e=>z (UInt8.toNat_inj.1 (by show(pk s (i+1)).toNat=48;omega));have k2:(((pk s (i+1)).toNat:Int)==48)=false:=by rw[beq_eq_false_iff_ne];exact p2
  have C:=fun W=>xK (pk s (i+1)) _ rfl W;rw[L]at C;have DG:=hid C;clear hb L z C p2 g;obtain⟨c0,r⟩: ∃c:Nat,c=(pk s i).toNat:=⟨_,rfl⟩
  obtain⟨c1,t⟩: ∃c:Nat,c=(pk s (i+1)).toNat:=⟨_,rfl⟩
  rw[←r]at A Z V;rw[←t]at o k2 DG;clear r t;go_enter Tryz.func187,Tryz.ntmps187
  go_wp2_with fail
  refine(A.out _ h).mono ?_;rintro e w1 ⟨rfl,E,rfl⟩;go_wp2_with fail
  refine(T.out _ (h.drewN E)).mono ?_;rintro e w2 ⟨rfl,b⟩;go_wp2_with fail
  refine(o.out _ b.at_).mono ?_;rintro e w3 ⟨rfl,J,rfl⟩;go_wp2_with fail
  refine(o.out _ (b.at_.drewN J)).mono ?_;rintro e w4 ⟨rfl,X,rfl⟩;go_wp2_with fail
  refine(DG.out _).mono ?_;rintro e w5 ⟨rfl,rfl⟩;go_wp2_with fail
  refine(o.out _ (by exact b.at_.drewN _)).mono ?_;rintro e w6 ⟨rfl,n6,rfl⟩;go_wp2_with fail
  obtain⟨wL,I⟩: ∃wL,wL=w2.drewN (J+X+n6):=⟨_,rfl⟩
  have hL:Rds w wL R s (i+1) true:=by rw[I];exact(Rds.trans ((Rds.of h).drewN E) b).drewN _
  rw[←I];have HL:=hid hL;clear hL I b
  go_loopg [8] (s.size+1) (fun k v wr=> ∃(j:Nat)(n:Int),v= .int .i64 n∧Rds w wr R s j true∧s.size+1=j+k-(i+1)∧ -9223372036854775808≤n∧n≤0∧
   Hid (zx s d a true k j n=zx s d a true (s.size+1) (i+1) 0))
  case atStart=>exact⟨i+1,0,rfl,HL.out,by omega,by omega,by omega,rfl⟩
  case round=>
   obtain⟨j,n,rfl,hr,hk,hn1,hn2,N⟩:=hrel;have B:=fun W D=>xv R s j true W D;have q:=fun W=>xK (pk s j) _ rfl W;have l:=hr.at_;have j1:=l.c1;have jf1:=l.fr 1;have jf2:=l.fr 2;have j2:=l.c2;have K:=hid hr;clear hr
   cases hd:qt (pk s j)with
   |false=>
    have M:zx s d a true gk j n=(j,true,n):=by
     cases gk with
     |zero=>rfl
     |succ f=>exact Qh s d a true f j n hd
    have S:=hid M;rw[hd]at q;obtain⟨c,hc⟩: ∃c:Nat,c=(pk s j).toNat:=⟨_,rfl⟩
    rw[←hc]at B q;have m:=hid B;have u:=hid q;clear B q hd hc M;go_wp2_with fail
    refine(m.out _ l).mono ?_;rintro e P ⟨rfl,O,rfl⟩;go_wp2_with fail
    refine(u.out _).mono ?_;rintro e Q ⟨rfl,rfl⟩;go_wp2_with fail
    go_ret
    rw[G.out, ←N.out,S.out];exact⟨zm rfl,K.out.drewN _⟩
   |true=>
    have hj:=Jr hd;obtain⟨t,U⟩:=ZV hd;obtain⟨f,rfl⟩: ∃f,gk=f+1:=⟨gk-1,by omega⟩
    rw[hd]at q;obtain⟨c,hc⟩: ∃c:Nat,c=(pk s j).toNat:=⟨_,rfl⟩
    rw[←hc]at B q t U;have m:=hid B;have u:=hid q;have y:=hid (kM s d a true f j n hd);have p:=hid (Qg s d a true f j n hd);rw[←hc]at y p;clear B q hd hc;have hc1':48≤(c:Int):=by omega
    have hc2':(c:Int)≤57:=by omega
    by_cases a1:n< -922337203685477580
    ·have F:=hid (p.out (.inl a1))
     clear y p;go_wp2_with fail
     refine(m.out _ l).mono ?_;rintro e P ⟨rfl,O,rfl⟩;go_wp2_with fail
     refine(u.out _).mono ?_;rintro e Q ⟨rfl,rfl⟩;go_wp2_with fail
     refine(m.out _ (l.drewN _)).mono ?_;rintro e w9 ⟨rfl,Y,rfl⟩;go_wp2_with fail
     go_ret
     rw[G.out, ←N.out,F.out];exact⟨zm rfl,(K.out.drewN _).set2 false⟩
    ·have a1': -922337203685477580≤n:=by omega
     clear a1;by_cases a2:10*n< -9223372036854775808+((c:Int)-48)
     ·have F:=hid (p.out (.inr (.inl a2)))
      clear y p;go_wp2_with fail
      refine(m.out _ l).mono ?_;rintro e P ⟨rfl,O,rfl⟩;go_wp2_with fail
      refine(u.out _).mono ?_;rintro e Q ⟨rfl,rfl⟩;go_wp2_with fail
      refine(m.out _ (l.drewN _)).mono ?_;rintro e w9 ⟨rfl,Y,rfl⟩;go_wp2_with fail
      go_ret
      rw[G.out, ←N.out,F.out];exact⟨zm rfl,(K.out.drewN _).set2 false⟩
     ·have a2': -9223372036854775808+((c:Int)-48)≤10*n:=by omega
      clear a2;by_cases a3:10*n-((c:Int)-48)<d
      ·have F:=hid (p.out (.inr (.inr (.inl ⟨rfl,a3⟩))))
       clear y p;go_wp2_with fail
       refine(m.out _ l).mono ?_;rintro e P ⟨rfl,O,rfl⟩;go_wp2_with fail
       refine(u.out _).mono ?_;rintro e Q ⟨rfl,rfl⟩;go_wp2_with fail
       refine(m.out _ (l.drewN _)).mono ?_;rintro e w9 ⟨rfl,Y,rfl⟩;go_wp2_with fail
       go_ret
       rw[G.out, ←N.out,F.out];exact⟨zm rfl,(K.out.drewN _).set2 false⟩
      ·have a3':d≤10*n-((c:Int)-48):=by omega
       have F:=hid (y.out (by simp;omega));clear y p a3;go_wp2_with fail
       refine(m.out _ l).mono ?_;rintro e P ⟨rfl,O,rfl⟩;go_wp2_with fail
       refine(u.out _).mono ?_;rintro e Q ⟨rfl,rfl⟩;go_wp2_with fail
       refine(m.out _ (l.drewN _)).mono ?_;rintro e w9 ⟨rfl,Y,rfl⟩;go_wp2_with fail
       go_roundg f
       case measure=>omega
       case rel=>
        refine⟨j+1,10*n-((c:Int)-48),?_,(K.out.drewN _).set1 (j+1),by omega,by omega,by omega,?_⟩
        ·congr 1
        ·rw[←F.out];exact N.out
theorem qaA(R:Nat)(s:ByteArray)(i:Nat)(b a:Int)(w:World)(h:RdAt w R s i true)(hs:s.size≤1000000000)
 (hh1:0≤a) (hh2:a≤9223372036854775807) (g:pk s i≠45):
 Calls Tryz.prog 187 #[.pointer (some ⟨R,0,none⟩),.int .i64 b,.int .i64 a] w fun e w'=>
  e= .returned (.int .i64 (qW s b a i).2.2)∧Rds w w' R s (qW s b a i).1 (qW s b a i).2.1:=by
 have I:((pk s i).toNat:Int)≠45:=fun e=>g (UInt8.toNat_inj.1 (by show(pk s i).toNat=45;omega));have O:(((pk s i).toNat:Int)==45)=false:=by rw[beq_eq_false_iff_ne];exact I
 have l:=hid (fun W E=>xv R s i true W E);have h1:=h.c1;have f1:=h.fr 1;have h2:=h.c2;have f2:=h.fr 2;by_cases hz:pk s i=48
 ·have x:=hid (show qW s b a i=(i+1,true,0)by unfold qW;rw[if_neg g,if_pos hz])
  have hi:i<s.size:=by
   rcases Nat.lt_or_ge i s.size with hi|hi
   ·exact hi
   ·rw[Qv s i (by omega)]at hz;cases hz
  have D:=hid (show ∀W,RdAt W R s i true→Calls Tryz.prog 185 #[.pointer (some ⟨R,0,none⟩)] W fun e w'=>e= .returned (.int .u8 48)∧ ∃n,w'=W.drewN n from fun W E=>by
   have:=l.out W E;rw[hz]at this
   exact this)
  clear hz g I O l;go_enter Tryz.func187,Tryz.ntmps187
  go_wp2_with fail
  refine(D.out _ h).mono ?_;rintro e Y ⟨rfl,B,rfl⟩;go_wp2_with fail
  refine(D.out _ (h.drewN B)).mono ?_;rintro e w2 ⟨rfl,P,rfl⟩;go_wp2_with fail
  go_ret
  rw[x.out];exact⟨zm rfl,((Rds.of h).drewN _).set1 (i+1)⟩
 have S:((pk s i).toNat:Int)≠48:=fun e=>hz (UInt8.toNat_inj.1 (by show(pk s i).toNat=48;omega));have V:(((pk s i).toNat:Int)==48)=false:=by rw[beq_eq_false_iff_ne];exact S
 have A:=fun W=>xK (pk s i) _ rfl W
 cases hd:qt (pk s i)with
 |false=>
  have x:=hid (show qW s b a i=(i,false,0)by unfold qW;rw[if_neg g,if_neg hz,if_pos hd]);rw[hd]at A;have DG:=hid A;obtain⟨c0,u⟩: ∃c:Nat,c=(pk s i).toNat:=⟨_,rfl⟩
  rw[←u]at l O V DG;clear hz g I S A hd u;go_enter Tryz.func187,Tryz.ntmps187
  go_wp2_with fail
  refine(l.out _ h).mono ?_;rintro e Y ⟨rfl,B,rfl⟩;go_wp2_with fail
  refine(l.out _ (h.drewN B)).mono ?_;rintro e w2 ⟨rfl,P,rfl⟩;go_wp2_with fail
  refine(l.out _ (h.drewN _)).mono ?_;rintro e w4 ⟨rfl,X,rfl⟩;go_wp2_with fail
  refine(DG.out _).mono ?_;rintro e w5 ⟨rfl,rfl⟩;go_wp2_with fail
  go_ret
  rw[x.out];exact⟨zm rfl,((Rds.of h).drewN _).set2 false⟩
 |true=>
  have x:=hid (show qW s b a i=qfM (zx s b a false (s.size+1) i 0)by
   unfold qW;rw[if_neg g,if_neg hz,if_neg (by rw[hd];decide)])
  rw[hd]at A;have DG:=hid A;obtain⟨c0,u⟩: ∃c:Nat,c=(pk s i).toNat:=⟨_,rfl⟩
  rw[←u]at l O V DG;clear hz g I S A hd u h1 f1 h2 f2;go_enter Tryz.func187,Tryz.ntmps187
  go_wp2_with fail
  refine(l.out _ h).mono ?_;rintro e Y ⟨rfl,B,rfl⟩;go_wp2_with fail
  refine(l.out _ (h.drewN B)).mono ?_;rintro e w2 ⟨rfl,P,rfl⟩;go_wp2_with fail
  refine(l.out _ (h.drewN _)).mono ?_;rintro e w4 ⟨rfl,X,rfl⟩;go_wp2_with fail
  refine(DG.out _).mono ?_;rintro e w5 ⟨rfl,rfl⟩;go_wp2_with fail
  refine(l.out _ (h.drewN _)).mono ?_;rintro e w6 ⟨rfl,n6,rfl⟩;go_wp2_with fail
  obtain⟨wL,z⟩: ∃wL,wL=w.drewN (B+P+X+n6):=⟨_,rfl⟩
  have U:Rds w wL R s i true:=by rw[z];exact(Rds.of h).drewN _
  rw[←z];have Z:=hid U;clear U z
  go_loopg [8] (s.size+1) (fun k v wr=> ∃(j:Nat)(n:Int),v= .int .i64 n∧Rds w wr R s j true∧s.size+1=j+k-i∧ -a≤n∧n≤0∧
   Hid (zx s b a false k j n=zx s b a false (s.size+1) i 0))
  case atStart=>exact⟨i,0,rfl,Z.out,by omega,by omega,by omega,rfl⟩
  case round=>
   obtain⟨j,n,rfl,hr,hk,hn1,hn2,G⟩:=hrel;have t:=fun W E=>xv R s j true W E;have p:=fun W=>xK (pk s j) _ rfl W;have d:=hr.at_;have j1:=d.c1;have jf1:=d.fr 1;have jf2:=d.fr 2;have j2:=d.c2;have C:=hid hr;clear hr
   cases hd:qt (pk s j)with
   |false=>
    have F:zx s b a false gk j n=(j,true,n):=by
     cases gk with
     |zero=>rfl
     |succ f=>exact Qh s b a false f j n hd
    have L:=hid F;rw[hd]at p;obtain⟨c,hc⟩: ∃c:Nat,c=(pk s j).toNat:=⟨_,rfl⟩
    rw[←hc]at t p;have m:=hid t;have q:=hid p;clear t p hd hc F;go_wp2_with fail
    refine(m.out _ d).mono ?_;rintro e J ⟨rfl,H,rfl⟩;go_wp2_with fail
    refine(q.out _).mono ?_;rintro e K ⟨rfl,rfl⟩;go_wp2_with fail
    go_ret
    rw[x.out, ←G.out,L.out];exact⟨zm rfl,C.out.drewN _⟩
   |true=>
    have hj:=Jr hd;obtain⟨M,N⟩:=ZV hd;obtain⟨f,rfl⟩: ∃f,gk=f+1:=⟨gk-1,by omega⟩
    rw[hd]at p;obtain⟨c,hc⟩: ∃c:Nat,c=(pk s j).toNat:=⟨_,rfl⟩
    rw[←hc]at t p M N;have m:=hid t;have q:=hid p;have r:=hid (kM s b a false f j n hd);have o:=hid (Qg s b a false f j n hd);rw[←hc]at r o;clear t p hd hc;have hc1':48≤(c:Int):=by omega
    have hc2':(c:Int)≤57:=by omega
    by_cases a1:n< -922337203685477580
    ·have y:=hid (o.out (.inl a1))
     clear r o;go_wp2_with fail
     refine(m.out _ d).mono ?_;rintro e J ⟨rfl,H,rfl⟩;go_wp2_with fail
     refine(q.out _).mono ?_;rintro e K ⟨rfl,rfl⟩;go_wp2_with fail
     refine(m.out _ (d.drewN _)).mono ?_;rintro e T ⟨rfl,Q,rfl⟩;go_wp2_with fail
     go_ret
     rw[x.out, ←G.out,y.out];exact⟨zm rfl,(C.out.drewN _).set2 false⟩
    ·have a1': -922337203685477580≤n:=by omega
     clear a1;by_cases a2:10*n< -9223372036854775808+((c:Int)-48)
     ·have y:=hid (o.out (.inr (.inl a2)))
      clear r o;go_wp2_with fail
      refine(m.out _ d).mono ?_;rintro e J ⟨rfl,H,rfl⟩;go_wp2_with fail
      refine(q.out _).mono ?_;rintro e K ⟨rfl,rfl⟩;go_wp2_with fail
      refine(m.out _ (d.drewN _)).mono ?_;rintro e T ⟨rfl,Q,rfl⟩;go_wp2_with fail
      go_ret
      rw[x.out, ←G.out,y.out];exact⟨zm rfl,(C.out.drewN _).set2 false⟩
     ·have a2': -9223372036854775808+((c:Int)-48)≤10*n:=by omega
      clear a2;by_cases a3:10*n-((c:Int)-48)< -a
      ·have y:=hid (o.out (.inr (.inr (.inr ⟨rfl,a3⟩))))
       clear r o;go_wp2_with fail
       refine(m.out _ d).mono ?_;rintro e J ⟨rfl,H,rfl⟩;go_wp2_with fail
       refine(q.out _).mono ?_;rintro e K ⟨rfl,rfl⟩;go_wp2_with fail
       refine(m.out _ (d.drewN _)).mono ?_;rintro e T ⟨rfl,Q,rfl⟩;go_wp2_with fail
       go_ret
       rw[x.out, ←G.out,y.out];exact⟨zm rfl,(C.out.drewN _).set2 false⟩
      ·have a3': -a≤10*n-((c:Int)-48):=by omega
       have y:=hid (r.out (by simp;omega));clear r o a3;go_wp2_with fail
       refine(m.out _ d).mono ?_;rintro e J ⟨rfl,H,rfl⟩;go_wp2_with fail
       refine(q.out _).mono ?_;rintro e K ⟨rfl,rfl⟩;go_wp2_with fail
       refine(m.out _ (d.drewN _)).mono ?_;rintro e T ⟨rfl,Q,rfl⟩;go_wp2_with fail
       go_roundg f
       case measure=>omega
       case rel=>
        refine⟨j+1,10*n-((c:Int)-48),?_,(C.out.drewN _).set1 (j+1),by omega,by omega,by omega,?_⟩
        ·congr 1
        ·rw[←y.out];exact G.out
theorem XN(R:Nat)(s:ByteArray)(i:Nat)(b a:Int)(w:World)(h:RdAt w R s i true)(hs:s.size≤1000000000)
 (f: -9223372036854775808≤b) (g:b≤0) (c:0≤a) (d:a≤9223372036854775807):
 Calls Tryz.prog 187 #[.pointer (some ⟨R,0,none⟩),.int .i64 b,.int .i64 a] w fun e w'=>
  e= .returned (.int .i64 (qW s b a i).2.2)∧Rds w w' R s (qW s b a i).1 (qW s b a i).2.1:=by
 by_cases hn:pk s i=45
 ·exact qaz R s i b a w h hs f g hn
 ·exact qaA R s i b a w h hs c d hn
theorem Q3(s:ByteArray)(k:Nat)(h:k<s.size):s.data.toList.take (k+1)=s.data.toList.take k++ [s[k]]:=by
 rw[List.take_succ_eq_append_getElem (by simpa using h)];rfl
def Qa(c:UInt8):Bool:=decide (32≤c.toNat∧c.toNat≤126)
def zY(l:List UInt8):Bool:=l.all Qa
theorem qeN(s:ByteArray)(k:Nat)(h0:k<s.size)(h1:(s[k].toNat:Int)<32∨126<(s[k].toNat:Int)):zY s.data.toList=false:=by
 rw[Bool.eq_false_iff];intro hn;unfold zY at hn;rw[List.all_eq_true]at hn;have:=hn s[k] (by show s.data[k]∈s.data.toList;simp);simp only[Qa,decide_eq_true_eq]at this;omega
theorem zZ(s:ByteArray)(w:World)(hs:s.size≤140737488351232):
 Calls Tryz.prog 225 #[.string s] w fun e w'=>e= .returned (.bool (zY s.data.toList))∧w=w':=by
 go_enter Tryz.func225,Tryz.ntmps225
 go_wp2
 go_loop [6] (fun i=> ∃k:Nat,k≤s.size∧i= .int .i64 k∧Hid (zY (s.data.toList.take k)=true)) (fun i=>s.size-(intOf i).toNat)
 case atStart=>exact⟨0,Nat.zero_le _,rfl,rfl⟩
 case round=>
  obtain⟨k,hk,rfl,a⟩:=hrel;by_cases b:k<s.size
  ·have c:=hid (Q3 s k b)
   go_wp2
   all_goals first
    |(go_ret
      exact⟨qw (qeN s k b (by omega)).symm,rfl⟩)
    |(refine⟨⟨k+1,by omega,by go_num,?_⟩,by simp[intOf];omega⟩
      show zY _=true
      have hx:=a.out;unfold zY at hx⊢;rw[c.out,List.all_append,hx,List.all_cons,show Qa s[k]=true from decide_eq_true (by omega)]
      rfl)
  ·obtain rfl:k=s.size:=by omega
   go_wp2
   go_ret
   refine⟨qw ?_,rfl⟩;have:=a.out;rw[List.take_of_length_le (by simp)]at this;exact this.symm
theorem ZG(B:Nat)(c:UInt8)(W:World)(h:W.cell? ⟨B,0,none⟩=some (.int .u8 c.toNat)):
 (convert 53 9 (.slice (some ⟨B,0,none⟩) 1 1)).run Tryz.prog W= .ok (.string ⟨#[c]⟩) W:=
 run_convert_bytes_back W _ _ 5 ⟨B,0,none⟩ 1 [c] Tryz.underlying53 Tryz.underlying5 Tryz.underlying9 (fun j a=>by
  obtain rfl:j=0:=by simpa using a
  exact h)
def qL(s:ByteArray):Nat→Nat→List UInt8→Nat×Bool×List UInt8
 |0,i,l=>(i,true,l)
 |f+1,i,l=>
  if pk s i=34 then(i,true,l)
  else if pk s i=92 then
   if pk s (i+1)=34∨pk s (i+1)=92 then qL s f (i+2) (l++ [pk s (i+1)])else(i+1,false,l)
  else if Qa (pk s i)then qL s f (i+1) (l++ [pk s i])else(i,false,l)
theorem Rds.alloc{b w2:World}{R:Nat}{s:ByteArray}{i:Nat}{ok:Bool}(h:Rds b w2 R s i ok)(o:Obj):Rds b (w2.alloc o) R s i ok:=
 ⟨(Below.heap_alloc w2 o R h.at_.lt).trans h.at_,⟨h.grown.os,h.grown.tape,h.grown.output,Nat.le_trans h.grown.size (by simp),fun k hk a=>(Below.heap_alloc w2 o k (Nat.lt_of_lt_of_le hk h.grown.size)).trans (h.grown.block k hk a)⟩⟩
theorem Rds.append{a w2 w3:World}{R:Nat}{s:ByteArray}{i:Nat}{ok:Bool}{row:Option Nat}(h:Rds a w2 R s i ok)(hg:w2.grownBy w3 row)(c:R<a.heap.size)(hr: ∀k,row=some k→a.heap.size≤k):Rds a w3 R s i ok:=
 ⟨(hg.block R h.at_.lt (fun e=>by have:=hr R e.symm;omega)).trans h.at_,
  ⟨hg.os.trans h.grown.os,hg.tape.trans h.grown.tape,hg.output.trans h.grown.output,Nat.le_trans h.grown.size hg.size,
   fun k hk b=>(hg.block k (Nat.lt_of_lt_of_le hk h.grown.size) (fun e=>by have:=hr k e.symm;omega)).trans (h.grown.block k hk b)⟩⟩
theorem qfc:(Tryz.prog.info? 5).map (fun i=>(i.zero,i.size,i.bytes))=some (some (.int .u8 0),1,1):=by kernel_rfl
def Q6(l:List UInt8):List Value:=l.map fun c=>Value.int .u8 c.toNat
structure Tok where
 kind:Int
 line:Int
 s:ByteArray
 k:Int
 n:Int
 t:ByteArray
structure TkIn (w:World) (g o:Nat) (t:Tok) (sa:Option Addr) (sc:Nat):Prop where
 c0:w.cell? ⟨g,o,none⟩=some (.int .i64 t.kind)
 c1:w.cell? ⟨g,o+1,none⟩=some (.int .i64 t.line)
 c2:w.cell? ⟨g,o+2,none⟩=some (.string t.s)
 c3:w.cell? ⟨g,o+3,none⟩=some (.int .i64 t.k)
 c4:w.cell? ⟨g,o+4,none⟩=some (.int .i64 t.n)
 c5:w.cell? ⟨g,o+5,none⟩=some (.string t.t)
 c6:w.cell? ⟨g,o+6,none⟩=some (.slice sa 0 sc)
theorem TkIn.below{w w':World}{g o B:Nat}{t:Tok}{sa:Option Addr}{sc:Nat}(h:TkIn w g o t sa sc)(hb:Below B w w')(hg:g<B):TkIn w' g o t sa sc:=
 have hk: ∀k,w'.cell? ⟨g,k,none⟩=w.cell? ⟨g,k,none⟩:=fun k=>hb.cell (p:=⟨g,k,none⟩) hg
 ⟨(hk _).trans h.c0,(hk _).trans h.c1,(hk _).trans h.c2,(hk _).trans h.c3,(hk _).trans h.c4,(hk _).trans h.c5,(hk _).trans h.c6⟩
def QE(c:UInt8):Bool:=decide (48≤c.toNat) && decide (c.toNat≤57)
theorem xE{c:UInt8}:QE c=true↔48≤c.toNat∧c.toNat≤57:=by simp[QE]
def KK(c:UInt8):Nat:=c.toNat-48
theorem QQ(c:UInt8):KK c=c.toNat-48:=by rw[KK]
attribute [irreducible] KK
def ja(acc:Nat)(l:List UInt8):Nat:=l.foldl (fun a c=>a*10+KK c) acc
theorem kH(acc:Nat):ja acc []=acc:=by unfold ja;rw[List.foldl_nil]
theorem jO(acc:Nat)(c:UInt8)(r:List UInt8):ja acc (c::r)=ja (acc*10+KK c) r:=by unfold ja;rw[List.foldl_cons]
theorem qci(l m:List UInt8): ∀acc:Nat,ja acc (l++m)=ja (ja acc l) m:=by
 induction l with
 |nil=>intro acc;rw[List.nil_append,kH]
 |cons c r a=>intro acc;rw[List.cons_append,jO,jO,a]
theorem qea(l:List UInt8): ∀acc:Nat,acc≤ja acc l:=by
 induction l with
 |nil=>intro acc;rw[kH];exact Nat.le_refl _
 |cons c r a=>intro acc;rw[jO];have:=a (acc*10+KK c);omega
def qgF(l:List UInt8):Prop:=l≠ []∧(∀c∈l,QE c=true)∧(l.head?=some 48→l.length=1)
theorem qa6(l:List UInt8)(c:UInt8)(acc:Nat):ja acc (l++ [c])=ja acc l*10+(c.toNat-48):=by rw[←QQ];rw[qci,jO,kH]
theorem Xv{u:Nat}(h:u<10):(UInt8.ofNat (48+u)).toNat=48+u:=by
 rw[UInt8.toNat_ofNat'];omega
theorem QO(u:Nat):qgF (decDigits u)∧ja 0 (decDigits u)=u∧(1≤u→(decDigits u).head?≠some 48):=by
 induction u using Nat.strongRecOn with
 |_ u k=>
  by_cases h:u<10
  ·rw[decDigits_one h]
   have b:=Xv h;refine⟨⟨by simp,?_,fun _=>rfl⟩,?_,?_⟩
   ·intro c hc
    rw[List.mem_singleton]at hc;subst hc;rw[xE,b];omega
   ·rw[jO,kH,QQ,b];omega
   ·intro h1 d
    simp only[List.head?_cons,Option.some.injEq]at d;rw[d]at b;have:(48:UInt8).toNat=48:=rfl;omega
  ·rw[decDigits,dif_neg h]
   obtain⟨⟨g,hd,hz⟩,hv,hp⟩:=k (u/10) (by omega);have b:=Xv (show u%10<10 by omega)
   have d:(decDigits (u/10)++ [UInt8.ofNat (48+u%10)]).head?=(decDigits (u/10)).head?:=by
    cases j:decDigits (u/10)with
    |nil=>exact absurd j g
    |cons a r=>rfl
   have f:=hp (by omega);refine⟨⟨by simp,?_,fun e=> ?_⟩,?_,fun _=> ?_⟩
   ·intro c hc
    rw[List.mem_append,List.mem_singleton]at hc;rcases hc with hc|hc
    ·exact hd c hc
    ·subst hc
     rw[xE,b];omega
   ·rw[d]at e;exact absurd e f
   ·rw[qa6,hv,b];omega
   ·rw[d];exact f
theorem Q7: ∀(l:List UInt8)(acc:Nat),(∀c∈l,QE c=true)→ja acc l≤18446744073709551615→parseUintM 18446744073709551615 acc l= .ok (ja acc l)
 | [],acc,_,_=>rfl
 |c::r,acc,hd,h=>by
  have hc:=xE.1 (hd c (by simp));rw[jO,QQ]at h;have hg:=qea r (acc*10+(c.toNat-48));rw[parseUintM,if_pos hc,if_neg (by omega),if_neg (by omega),Q7 r _ (fun x hx=>hd x (by simp[hx])) h,jO,QQ]
end Go.Proofs.YtggngahmafbihaaGreatDoor
