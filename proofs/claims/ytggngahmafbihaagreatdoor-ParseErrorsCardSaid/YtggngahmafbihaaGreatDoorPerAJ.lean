/- Contracts, and the plain mathematics beneath. -/
import Derived.Deep.RegionHeld3
import Derived.LaidEql
import Derived.Handy
import Derived.Test.YtggngahmafbihaaGreatDoorTie
import Derived.Test.YtggngahmafbihaaGreatDoorCards
import Derived.SevenTiedAt
import Derived.LaidMore
import Derived.Stop.Joined
import Derived.HandedShaped
import Derived.OpenShut
import Derived.ShutString
import Derived.Lay
import Derived.Test.YtggngahmafbihaaGreatDoorPerAF
set_option linter.unusedVariables false
set_option linter.unusedSimpArgs false
set_option maxRecDepth 100000
set_option maxHeartbeats 4000000
namespace Go.Proofs.YtggngahmafbihaaGreatDoor
open Go.RowKit Go.Lib
def JE:List Nat:= [4,5,6,0,3,7,8,9,10,
 11,1,2,12,13,14,15,16]
structure SeesAt (w:World) (ea:Nat→Addr):Prop where
 at_: ∀k,k<17→w.cell? ⟨JE.getD k 0,0,none⟩=some (.iface 270 (.pointer (some (ea (101+k)))))
 row: ∀k,k<17→ ∃c t,w.heap[(ea (101+k)).block]?=some (.cells c t (0,0))
 apart: ∀i j,i<17→j<17→ea (101+i)=ea (101+j)→i=j
 room:24<w.heap.size
theorem qaK: ∀k:Fin 17,JE.getD k.val 0<24:=by decide
theorem SeesAt.below{w w':World}{ea:Nat→Addr}(h:SeesAt w ea)(hb:Below w.heap.size w w'):SeesAt w' ea:=by
 have i: ∀k,k<17→(ea (101+k)).block<w.heap.size:=fun k hk=>by
  obtain⟨c,t,h1⟩:=h.row k hk;rcases Nat.lt_or_ge (ea (101+k)).block w.heap.size with i|hge
  ·exact i
  ·rw[Array.getElem?_eq_none hge]at h1;cases h1
 have j:=h.room;refine⟨fun k hk=> ?_,fun k hk=> ?_,h.apart,by have:=hb.size;omega⟩
 ·have hs:=qaK ⟨k,hk⟩
  simp only at hs;exact(World.cell?_of_block (w:=w) (hb.block (JE.getD k 0) (by omega))).trans (h.at_ k hk)
 ·obtain⟨c,t,h1⟩:=h.row k hk
  exact⟨c,t,(hb.block _ (i k hk)).trans h1⟩
theorem SeesAt.errs{w:World}{ea:Nat→Addr}(h:SeesAt w ea):ErrsAt w ea:=
 {syn:=h.at_ 10 (by decide),deep:=h.at_ 11 (by decide),many:=h.at_ 3 (by decide),range:=h.at_ 4 (by decide),shape:=h.at_ 2 (by decide),name:=h.at_ 5 (by decide),room:=h.room}
theorem xM{P:Program}{t:TypeId}{α:Type}{f:TypeInfo→α}{b:α}(h:(P.info? t).map f=some b): ∃i,P.info? t=some i∧f i=b:=by
 cases j:P.info? t with
 |none=>rw[j]at h;cases h
 |some i=>rw[j]at h;exact⟨i,rfl,Option.some.inj h⟩
theorem qaW(a:Addr)(w:World):
 Calls Tryz.prog 107 #[.iface 270 (.pointer (some a)),.iface 270 (.pointer (some a))] w fun e w'=>e= .returned (.bool true)∧w=w':=by
 obtain⟨i,hi,k⟩:=xM (P:=Tryz.prog) (t:=270) (f:=fun i=>i.comparable) (b:=true) (by kernel_rfl);obtain⟨j,m,l⟩:=xM (P:=Tryz.prog) (t:=272) (f:=fun i=>i.size) (b:=1) (by kernel_rfl);have n:=run_eql_iface_ptr_same (P:=Tryz.prog) (ti:=33) w a Tryz.underlying33 Tryz.underlying270 hi k m;clear hi k m l;go_enter Tryz.func107,Tryz.ntmps107
 go_wp2
 go_ret
 exact⟨rfl,rfl⟩
theorem qb3(a b:Addr)(w:World){o p:Array Value}{q r:TypeId}(m:a≠b)(ha:w.heap[a.block]?=some (.cells o q (0,0)))(hb:w.heap[b.block]?=some (.cells p r (0,0))):
 Calls Tryz.prog 107 #[.iface 270 (.pointer (some a)),.iface 270 (.pointer (some b))] w fun e w'=>e= .returned (.bool false)∧w=w':=by
 obtain⟨i,hi,k⟩:=xM (P:=Tryz.prog) (t:=270) (f:=fun i=>i.comparable) (b:=true) (by kernel_rfl);obtain⟨j,n,l⟩:=xM (P:=Tryz.prog) (t:=272) (f:=fun i=>i.size) (b:=1) (by kernel_rfl);have s:=run_eql_iface_ptr_other (P:=Tryz.prog) (ti:=33) w Tryz.underlying33 Tryz.underlying270 hi k n (by rw[l];decide) m ha hb;clear ha hb m hi k n l;go_enter Tryz.func107,Tryz.ntmps107
 go_wp2
 go_ret
 exact⟨rfl,rfl⟩
def qdj(ea:Nat→Addr):Array Value:= #[.iface 270 (.pointer (some (ea 101))),.iface 270 (.pointer (some (ea 102))),.iface 270 (.pointer (some (ea 103))),.iface 270 (.pointer (some (ea 104))),.iface 270 (.pointer (some (ea 105))),
 .iface 270 (.pointer (some (ea 106))),.iface 270 (.pointer (some (ea 107))),.iface 270 (.pointer (some (ea 108))),.iface 270 (.pointer (some (ea 109))),.iface 270 (.pointer (some (ea 110))),.iface 270 (.pointer (some (ea 111))),
 .iface 270 (.pointer (some (ea 112))),.iface 270 (.pointer (some (ea 113))),.iface 270 (.pointer (some (ea 114))),.iface 270 (.pointer (some (ea 115))),.iface 270 (.pointer (some (ea 116))),.iface 270 (.pointer (some (ea 117)))]
theorem qdk(ea:Nat→Addr): ∀k,k<17→(qdj ea)[k]?=some (.iface 270 (.pointer (some (ea (101+k))))):=by
 intro k hk
 match k,hk with
 |0,_|1,_|2,_|3,_|4,_|5,_|6,_|7,_|8,_|9,_|10,_|11,_|12,_|13,_|14,_|15,_|16,_=>rfl
 |n+17,h=>exact absurd h (by omega)
theorem Kw(ea:Nat→Addr)(w:World)(h:SeesAt w ea):
 Calls Tryz.prog 106 #[] w fun e w'=>e= .returned (.slice (some ⟨w.heap.size,0,none⟩) 17 17)∧w'=w.alloc (.cells (qdj ea) 33):=by
 have h0:=h.at_ 0 (by decide);have h1:=h.at_ 1 (by decide);have h2:=h.at_ 2 (by decide);have h3:=h.at_ 3 (by decide);have h4:=h.at_ 4 (by decide);have h5:=h.at_ 5 (by decide);have h6:=h.at_ 6 (by decide);have h7:=h.at_ 7 (by decide);have h8:=h.at_ 8 (by decide);have h9:=h.at_ 9 (by decide);have i:=h.at_ 10 (by decide);have j:=h.at_ 11 (by decide);have k:=h.at_ 12 (by decide);have l:=h.at_ 13 (by decide);have m:=h.at_ 14 (by decide);have n:=h.at_ 15 (by decide);have o:=h.at_ 16 (by decide);simp only[JE,List.getD_cons_zero,List.getD_cons_succ]at h0 h1 h2 h3 h4 h5 h6 h7 h8 h9 i j k l m n o;clear h;go_enter Tryz.func106,Tryz.ntmps106
 go_wp2
 go_ret
 exact⟨rfl,rfl⟩
theorem qaL(ea:Nat→Addr)(c:Nat)(w:World)(h:SeesAt w ea)(hc:c<17):
 Calls Tryz.prog 63 #[.iface 270 (.pointer (some (ea (101+c))))] w fun e w'=>e= .returned (.int .i64 (101+(c:Int)))∧Below w.heap.size w w':=by
 have hs:=Kw ea w h;obtain⟨w1,j⟩: ∃w1,w1=w.alloc (.cells (qdj ea) 33):=⟨_,rfl⟩
 have m:Below w.heap.size w w1:=by rw[j];exact(Below.refl _ _).alloc (Nat.le_refl _) _
 have h1:=h.below m
 have hcell: ∀k,k<17→w1.cell? ⟨w.heap.size,k,none⟩=some (.iface 270 (.pointer (some (ea (101+k))))):=by
  intro k hk;rw[j,World.cell?_alloc_at _ _ _ _ rfl];exact qdk ea k hk
 rw[←j]at hs;have SC:=hid (hs.mono (fun e w' ⟨v,x⟩=>(⟨v,x.symm⟩:e=_∧w1=w')));have u:=hid hcell;have t:=hid m;have y:=hid h1;have s:=hid (qaW (ea (101+c)) w1)
 have r:=hid (fun k (hk:k<17) (q:c≠k)=>by
  obtain⟨z,C,ha⟩:=h1.row c hc;obtain⟨A,D,hb⟩:=h1.row k hk
  exact qb3 (ea (101+c)) (ea (101+k)) w1 (fun e=>q (h1.apart c k hc hk e)) ha hb)
 clear hs m h1 hcell h;go_enter Tryz.func63,Tryz.ntmps63
 go_wp2_with fail
 refine SC.out.mono ?_;rintro e w' ⟨rfl,rfl⟩;clear SC j;go_wp2_with fail
 go_loop [4] (fun i=> ∃k:Nat,k≤c∧i= .int .i64 k) (fun i=>17-(intOf i).toNat)
 case atStart=>exact⟨0,Nat.zero_le _,rfl⟩
 case round=>
  obtain⟨k,hk,rfl⟩:=hrel;have l:k<17:=by omega
  have hcell:=u.out k l;by_cases n:c=k
  ·subst n
   have B:((101:Int)+(c:Int))≤117:=by omega
   go_wp2_with fail
   refine s.out.mono ?_;rintro e w' ⟨rfl,rfl⟩;go_wp2_with fail
   go_ret
   exact⟨rfl,t.out⟩
  ·have o:=hid (r.out k l n)
   have p:k+1≤c:=by omega
   clear n;go_wp2_with fail
   refine o.out.mono ?_;rintro e w' ⟨rfl,rfl⟩;go_wp2_with fail
   go_round
   case rel=>exact⟨k+1,p,by go_num⟩
   case measure=>simp[intOf];omega
section
def jL(c:Int)(p:Bool)(pos:Int):Value:= .agg #[.int .i64 c,.bool p,.int .i64 pos,.int .i64 0,.int .i64 0,.string ⟨#[]⟩,.slice none 0 0]
theorem qef(c:Int)(w:World):
 Calls Tryz.prog 32 #[.int .i64 c] w fun e w'=>e= .returned (jL c false 0)∧Below w.heap.size w w':=by
 unfold jL;go_enter Tryz.func32,Tryz.ntmps32
 go_wp2
 go_returns
 exact⟨rfl,(Below.refl _ _).alloc (Nat.le_refl _) _⟩
theorem XT(c pos:Int)(hc:(c==0)=false)(w:World):
 Calls Tryz.prog 17 #[.int .i64 c,.int .i64 pos] w fun e w'=>e= .returned (jL c true pos)∧Below w.heap.size w w':=by
 unfold jL;go_enter Tryz.func17,Tryz.ntmps17
 go_wp2
 go_returns
 exact⟨rfl,(Below.refl _ _).alloc (Nat.le_refl _) _⟩
def StF(w:World)(g:Nat)(a b c d e f h:Value):Prop:=w.heap[g]?=some (.cells #[a,b,c,d,e,f,h] 41 (0,0))
section
variable {w w' : World} {g : Nat} {a b c d e f h : Value}
theorem StF.new(W:World)(a b c d e f h:Value):StF (W.alloc (.cells #[a,b,c,d,e,f,h] 41)) W.heap.size a b c d e f h:=by unfold StF World.alloc;simp
theorem StF.lt(H:StF w g a b c d e f h):g<w.heap.size:=by
 rcases Nat.lt_or_ge g w.heap.size with i|hge
 ·exact i
 ·unfold StF at H;rw[Array.getElem?_eq_none hge]at H;cases H
theorem StF.below(H:StF w g a b c d e f h)(hb:Below w.heap.size w w'):StF w' g a b c d e f h:=(hb.block g H.lt).trans H
theorem StF.cells(H:StF w g a b c d e f h):w.cell? ⟨g,0,none⟩=some a∧w.cell? ⟨g,1,none⟩=some b∧w.cell? ⟨g,2,none⟩=some c∧w.cell? ⟨g,3,none⟩=some d∧w.cell? ⟨g,4,none⟩=some e∧w.cell? ⟨g,5,none⟩=some f∧w.cell? ⟨g,6,none⟩=some h:=
 ⟨cell_of_row w g 0 _ _ _ H,cell_of_row w g 1 _ _ _ H,cell_of_row w g 2 _ _ _ H,cell_of_row w g 3 _ _ _ H,cell_of_row w g 4 _ _ _ H,cell_of_row w g 5 _ _ _ H,cell_of_row w g 6 _ _ _ H⟩
theorem StF.fr(H:StF w g a b c d e f h)(k:Nat):w.frozen? ⟨g,k,none⟩=false:=by unfold StF at H;simp[World.frozen?,H]
end
theorem StF.set7{w:World}{g:Nat}{a b c d e f h:Value}(H:StF w g a b c d e f h)(a' b' i j e' k h':Value):
 StF (((((((w.setCell ⟨g,0,none⟩ a').setCell ⟨g,1,none⟩ b').setCell ⟨g,2,none⟩ i).setCell ⟨g,3,none⟩ j).setCell ⟨g,4,none⟩ e').setCell ⟨g,5,none⟩ k).setCell ⟨g,6,none⟩ h') g a' b' i j e' k h':=by
 unfold StF at H⊢;simp[World.setCell,Array.getElem?_modify,H]
theorem ZT{w w':World}{B:Nat}(h:Below B w w'){g:Nat}(hg:B≤g)(a b c d e f k:Value):
 Below B w (((((((w'.setCell ⟨g,0,none⟩ a).setCell ⟨g,1,none⟩ b).setCell ⟨g,2,none⟩ c).setCell ⟨g,3,none⟩ d).setCell ⟨g,4,none⟩ e).setCell ⟨g,5,none⟩ f).setCell ⟨g,6,none⟩ k):=
 Below.setCell (Below.setCell (Below.setCell (Below.setCell (Below.setCell (Below.setCell (Below.setCell h hg _) hg _) hg _) hg _) hg _) hg _) hg _
theorem JV{j:Func}{p:Tmp}{Q:Ending→World→Prop}{i:Act}{w:World}(hr:j.results= #[.cell p 41])(g:Nat)(hp:i.tmps.getD p undef= .pointer (some ⟨g,0,none⟩))(hd:i.defers= [])
 {a b c d e f h:Value} (n:StF w g a b c d e f h) (m:Q (.returned (.agg #[a,b,c,d,e,f,h])) w):bodyPost Tryz.prog j Q .ret i w:=by
 refine bodyPost_ret (v:= .agg #[a,b,c,d,e,f,h]) ?_ hd m;obtain⟨k,c1,c2,c3,c4,c5,l⟩:=n.cells;have hp':(i.tmps[p]?).getD undef= .pointer (some ⟨g,0,none⟩):=by simpa using hp
 simp[results,hr,hp',go_sem,k,c1,c2,c3,c4,c5,l]
theorem xJ{B i:Nat}{w w':World}(h:Below B w w')(hb:i≤B):Below i w w':=⟨h.os,h.tape,h.output,h.size,fun k hk=>h.block k (by omega)⟩
end
theorem qeg(ea:Nat→Addr)(c:Nat)(w:World)(h:SeesAt w ea)(hc:c<17):
 Calls Tryz.prog 31 #[.iface 270 (.pointer (some (ea (101+c))))] w fun e w'=>e= .returned (jL (101+(c:Int)) false 0)∧Below w.heap.size w w':=by
 have F: ∀w:World,(Instr.typeAssert (.iface 270 (.pointer (some (ea (101+c))))) 33 104 true).run Tryz.prog w= .ok (.tuple #[.pointer none,.bool false]) w:=fun w=>by kernel_rfl
 obtain⟨w1,i⟩: ∃w1,w1=w.alloc (.cells #[.int .i64 0,.bool false,.int .i64 0,.int .i64 0,.int .i64 0,.string ⟨#[]⟩,.slice none 0 0] 41):=⟨_,rfl⟩
 have j:Below w.heap.size w w1:=by rw[i];exact(Below.refl _ _).alloc (Nat.le_refl _) _
 have s:StF w1 w.heap.size (.int .i64 0) (.bool false) (.int .i64 0) (.int .i64 0) (.int .i64 0) (.string ⟨#[]⟩) (.slice none 0 0):=by rw[i];exact StF.new w _ _ _ _ _ _ _
 have SC:=hid (qaL ea c w1 (h.below j) hc);have r:=hid j;have t:=hid s;have u:=hid i;have q:=hid (fun W=>qef (101+(c:Int)) W);unfold jL;unfold jL at q;clear j s h i;go_enter Tryz.func31,Tryz.ntmps31
 go_wp2_with fail
 rw[←u.out];refine SC.out.mono ?_;rintro e w2 ⟨rfl,k⟩;have hs2:=t.out.below k;have m:=hid (r.out.trans (xJ k r.out.size));clear SC k;have o:=hid hs2;clear hs2;go_wp2_with fail
 refine(q.out _).mono ?_;rintro e w3 ⟨rfl,l⟩;have hs3:=o.out.below l;obtain⟨v,c1,c2,c3,c4,c5,x⟩:=hs3.cells;have y:=hs3.fr 0;have z:=hs3.fr 1;have A:=hs3.fr 2;have B:=hs3.fr 3;have C:=hs3.fr 4;have D:=hs3.fr 5;have E:=hs3.fr 6;have n:=hid (m.out.trans (xJ l m.out.size));have p:=hid hs3;clear l hs3;go_wp2_with fail
 refine JV Tryz.results31 w.heap.size rfl rfl (p.out.set7 _ _ _ _ _ _ _) ?_;exact⟨rfl,ZT n.out (Nat.le_refl _) _ _ _ _ _ _ _⟩
def AtAt(w:World)(A:Nat)(pos:Int)(v:Value):Prop:=w.heap[A]?=some (.cells #[.int .i64 pos,v] 73 (0,0))
theorem AtAt.below{w w':World}{A:Nat}{pos:Int}{v:Value}(H:AtAt w A pos v)(hb:Below w.heap.size w w'):AtAt w' A pos v:=by
 have i:A<w.heap.size:=by
  rcases Nat.lt_or_ge A w.heap.size with i|hge
  ·exact i
  ·unfold AtAt at H;rw[Array.getElem?_eq_none hge]at H;cases H
 exact(hb.block A i).trans H
theorem AtAt.c0{w:World}{A:Nat}{pos:Int}{v:Value}(H:AtAt w A pos v):w.cell? ⟨A,0,none⟩=some (.int .i64 pos):=cell_of_row w A 0 _ _ _ H
theorem AtAt.c1{w:World}{A:Nat}{pos:Int}{v:Value}(H:AtAt w A pos v):w.cell? ⟨A,1,none⟩=some v:=cell_of_row w A 1 _ _ _ H
theorem qcm(ea:Nat→Addr)(c:Nat)(A:Nat)(pos:Int)(w:World)(h:SeesAt w ea)(hc:c<17)(hA:AtAt w A pos (.iface 270 (.pointer (some (ea (101+c)))))):
 Calls Tryz.prog 13 #[.iface 70 (.pointer (some ⟨A,0,none⟩))] w fun e w'=>e= .returned (jL (101+(c:Int)) true pos)∧Below w.heap.size w w':=by
 have Q: ∀w:World,(Instr.typeAssert (.iface 70 (.pointer (some ⟨A,0,none⟩))) 33 70 true).run Tryz.prog w= .ok (.tuple #[.pointer (some ⟨A,0,none⟩),.bool true]) w:=fun w=>by kernel_rfl
 obtain⟨w1,l⟩: ∃w1,w1=w.alloc (.cells #[.int .i64 0,.bool false,.int .i64 0,.int .i64 0,.int .i64 0,.string ⟨#[]⟩,.slice none 0 0] 41):=⟨_,rfl⟩
 have m:Below w.heap.size w w1:=by rw[l];exact(Below.refl _ _).alloc (Nat.le_refl _) _
 have B:StF w1 w.heap.size (.int .i64 0) (.bool false) (.int .i64 0) (.int .i64 0) (.int .i64 0) (.string ⟨#[]⟩) (.slice none 0 0):=by rw[l];exact StF.new w _ _ _ _ _ _ _
 have hA1:=hA.below m;have F:=hA1.c0;have a1:=hA1.c1;rw[l]at F a1;have x:=hid m;have D:=hid B;have E:=hid l;have C:=hid hA1;have v:=hid (qeg ea c w1 (h.below m) hc);unfold jL;unfold jL at v;clear m B l h hA hA1;go_enter Tryz.func13,Tryz.ntmps13
 go_wp2_with fail
 rw[←E.out];refine v.out.mono ?_;rintro e w3 ⟨rfl,n⟩;have hs3:=D.out.below n;have k:=C.out.below n;have j:=hs3.lt
 have r:A<w3.heap.size:=by
  rcases Nat.lt_or_ge A w3.heap.size with u|hge
  ·exact u
  ·unfold AtAt at k;rw[Array.getElem?_eq_none hge]at k;cases k
 have q: ∀(p:Addr)(o:Obj),p.block<w3.heap.size→(w3.alloc o).cell? p=w3.cell? p:=fun p o hp=>World.cell?_of_block (w:=w3) (Below.heap_alloc w3 o p.block hp);have G:=fun o=>(q ⟨A,0,none⟩ o r).trans k.c0;obtain⟨y,c1,c2,c3,c4,c5,z⟩:=hs3.cells;have H:=fun o=>(q ⟨w.heap.size,0,none⟩ o j).trans y;have d1:=fun o=>(q ⟨w.heap.size,1,none⟩ o j).trans c1;have d2:=fun o=>(q ⟨w.heap.size,2,none⟩ o j).trans c2;have d3:=fun o=>(q ⟨w.heap.size,3,none⟩ o j).trans c3;have d4:=fun o=>(q ⟨w.heap.size,4,none⟩ o j).trans c4;have d5:=fun o=>(q ⟨w.heap.size,5,none⟩ o j).trans c5;have I:=fun o=>(q ⟨w.heap.size,6,none⟩ o j).trans z;have i: ∀o,StF (w3.alloc o) w.heap.size (.int .i64 0) (.bool false) (.int .i64 0) (.int .i64 0) (.int .i64 0) (.string ⟨#[]⟩) (.slice none 0 0):=fun o=>(Below.heap_alloc w3 o _ j).trans hs3;have J:=fun o=>(i o).fr 0;have K:=fun o=>(i o).fr 1;have L:=fun o=>(i o).fr 2;have M:=fun o=>(i o).fr 3;have N:=fun o=>(i o).fr 4;have O:=fun o=>(i o).fr 5;have P:=fun o=>(i o).fr 6;have t:=hid i;have s:=hid (x.out.trans (xJ n x.out.size));clear n hs3 k r j q i y c1 c2 c3 c4 c5 z;go_wp2_with fail
 refine JV Tryz.results13 w.heap.size rfl rfl ((t.out _).set7 _ _ _ _ _ _ _) ?_;exact⟨rfl,ZT (s.out.alloc s.out.size _) (Nat.le_refl _) _ _ _ _ _ _ _⟩
section
open Go.ChangeShapes Go.WideShapes Go.ChangeAt
open Go.ChangeMaps (open_string shut_string)
theorem qcC:ownKnob Tryz.prog.godebug=none:=by kernel_rfl
theorem Zs{H:Type}{enc:TypeId×Value→H}{a:Assume}{C:Checked}{os:Os}{f:FuncId}{fn:Func}{s:ChangeSpec}{q:List PathCond}{k r n p:Bool}{X:World→Array Value→Prop}
 (O: ∀(w w':World)(args:Array Value),w.heap=w'.heap→X w args→X w' args)
 (M:ownKnob C.prog.godebug=none) (u:os.Started) (y:C.prog.inits.idxOf? f=none) (J:C.prog.funcs[f]?=some fn)
 (x: ∃(w:World)(l:Tape)(i:Input),w.os=os∧(w.forCall l i).Shaped C.prog∧i.vars= []∧Input.okWide C.prog (w.forCall l i) .any w.heap.size f i∧
  ((s.pre enc C.prog fn q k (w.forCall l i).memory i.args∧X (w.forCall l i).memory i.args)∧sizedMet enc C.prog fn (OpenSpec.ofChange s) k (w.forCall l i).memory i.args)∧a.holds C.prog (lone (Frame.enter C.prog f i.args .normal) [] (w.forCall l i)))
 (o: ∀(W:World)(z:Nat)(args:Array Value) (E F:List (DataW H)) (m:List MemPlace),
  (∀(j:Nat) t v,fn.params[j]?=some t→args[j]?=some v→Value.okWide C.prog W .any z t v)→
  DataW.Whole enc C.prog fn.params.toList s.vars k W args.toList E F m→
  (DataW.weightsEach C.prog (fn.params.toList++s.plain.varTypes C.prog) (E++F)).all (· ≤reachBytes)=true→X W args→W.ShapedOpen C.prog→
  Calls C.prog f args W fun e W'=> ∃v,e= .returned v∧s.post enc C.prog fn k r n p W args v W'):
 ReturnsInHanded a C os f .any (fun w args=>(s.pre enc C.prog fn q k w args∧X w args)∧sizedMet enc C.prog fn (OpenSpec.ofChange s) k w args) (s.post enc C.prog fn k r n p):=by
 refine returnsInHanded_of_calls M u y x ?_;intro w l i _ L _ K B G;obtain⟨_,_,_,I,A,_,_,_,_,D⟩:=K;have e:I=fn:=Option.some.inj (A.symm.trans J);subst e;obtain⟨⟨⟨E,F,m,N,hc⟩,hx⟩,hz⟩:=B;have hw':=DataW.Whole.of_heap (w':=w.forCall l i) (by rfl) N;refine(o (w.forCall l i) w.heap.size i.args E F m D hw' (hz.weights N) (O _ _ _ (by rfl) hx) L).mono fun e W' ⟨v,P,hp⟩=> ?_;subst P;exact ChangeSpec.post_blind hp
theorem JO{a:Int}(h:(Lit.int .i64 a).wf=true): -9223372036854775808≤a∧a≤9223372036854775807:=by
 have e1:IntKind.i64.min= -9223372036854775808:=by decide
 have e2:IntKind.i64.max=9223372036854775807:=by decide
 simp[Lit.wf]at h;omega
theorem qe3{W:World}(h:W.ShapedOpen Tryz.prog):24<W.heap.size:=by
 have i:(((begin Tryz.prog (fun _ _=>0) default).world.heap[24]?).bind Obj.row?).isSome=true:=by kernel_rfl
 obtain⟨⟨z,t⟩,hz⟩:=Option.isSome_iff_exists.1 i;have hn:Tryz.prog.globals.size=28:=by kernel_rfl
 obtain⟨cs,hc,_⟩:=h.1 24 z t (by rw[hn];decide) hz;rcases Nat.lt_or_ge 24 W.heap.size with j|hge
 ·exact j
 ·rw[Array.getElem?_eq_none hge]at hc;cases hc
end
section
open Go.ChangeShapes Go.WideShapes
def AllSent(W:World):List (String×Nat)→List Addr→Prop
 | [],[]=>True
 |x::l,a::bs=>W.cell? ⟨x.2,0,none⟩=some (.iface 270 (.pointer (some a)))∧(∃c t,W.heap[a.block]?=some (.cells c t (0,0)))∧AllSent W l bs
 | [],_::_=>False
 |_::_,[]=>False
theorem AllSent.len{W:World}: ∀{l:List (String×Nat)} {bs:List Addr},AllSent W l bs→bs.length=l.length
 | [],[],_=>rfl
 |x::l,a::bs,h=>by rw[List.length_cons,List.length_cons,AllSent.len h.2.2]
 | [],_::_,h=>h.elim
 |_::_,[],h=>h.elim
theorem AllSent.get{W:World}: ∀{l:List (String×Nat)} {bs:List Addr} (k:Nat),AllSent W l bs→k<l.length→
 W.cell? ⟨(l.getD k ("",0)).2,0,none⟩=some (.iface 270 (.pointer (some (bs.getD k ⟨0,0,none⟩))))∧ ∃c t,W.heap[(bs.getD k ⟨0,0,none⟩).block]?=some (.cells c t (0,0))
 | [],[],k,_,hk=>absurd hk (Nat.not_lt_zero _)
 |x::l,a::bs,0,h,_=>⟨h.1,h.2.1⟩
 |x::l,a::bs,k+1,h,hk=>by
  rw[List.getD_cons_succ,List.getD_cons_succ];exact AllSent.get k h.2.2 (by rw[List.length_cons]at hk;omega)
 | [],_::_,_,h,_=>h.elim
 |_::_,[],_,h,_=>h.elim
theorem X9{W:World}: ∀(l:List (String×DataW Unit×Nat)) (rest:List (String×DataW Unit)) (ps:List MemPlace),DataW.LaidVars Tryz.prog W ((l.map fun x=>(x.1,x.2.1))++rest) ps→
 (∀x∈l,(∃t,x.2.1= .iface "*errors.errorString" (.ptr (.agg [.lit (.string t)])))∧Tryz.prog.globalNamed x.1=some x.2.2∧(Tryz.prog.globals[x.2.2]?).map (·.type)=some 33)→
 (∀b i,MemPlace.cell b i∈ps→(∃c t,W.heap[b]?=some (.cells c t (0,0)))∧ ∀u v,W.cell? ⟨b,i,none⟩=some (.iface u v)→Value.okWide Tryz.prog W .any 0 u v)→
 ∃bs:List Addr,AllSent W (l.map fun x=>(x.1,x.2.2)) bs∧List.Sublist (bs.map fun a=>MemPlace.cell a.block a.off) ps
 | [],rest,ps,_,_,_=>⟨[],trivial,List.nil_sublist _⟩
 |x::l,rest,ps,h,hl,hrows=>by
  obtain⟨⟨A,hx⟩,hg,z⟩:=hl x (by simp);obtain⟨n,d,g⟩:=x;simp only at hx hg z;subst hx;obtain⟨g0,t0,o,H,I,G,hg0,r,m,q,j,B⟩:=h;obtain rfl:=Option.some.inj (hg.symm.trans hg0);obtain rfl:=Option.some.inj (z.symm.trans r);subst B;obtain⟨F⟩:=o
  have y: ∀u v,F= [.iface u v]→Value.okWide Tryz.prog W .any 0 u v:=fun u v e=>by
   subst e;exact(hrows g 0 (by simp[MemPlace.row])).2 u v (by simpa using World.var?_cell hg0 m 0)
  obtain⟨a,s,rfl,C,D,E,rfl⟩:=errorString_of_trod Tryz.underlying33 K7 Tryz.underlying270 Tryz.underlying272 rfl rfl Tryz.underlying9 (by kernel_rfl) (by kernel_rfl) q y;obtain⟨bs,p,k⟩:=X9 l rest G j (fun x hx=>hl x (by simp[hx])) (fun b i hb=>hrows b i (by simp[hb]));refine⟨a::bs,⟨by simpa using World.var?_cell hg0 m 0,(hrows a.block a.off (by simp[MemPlace.row])).1,p⟩,?_⟩;have e1:MemPlace.row a 1= [MemPlace.cell a.block a.off]:=by simp[MemPlace.row]
  rw[e1,List.map_cons,List.append_assoc];exact(List.Sublist.cons_cons _ k).trans (List.sublist_append_right _ _)
theorem qe7{W:World}(l:List (String×DataW Unit×Nat))(rest:List (String×DataW Unit))(h:laidMet Tryz.prog ((l.map fun x=>(x.1,x.2.1))++rest) W)(hG:l.map (fun x=>x.2.2)=JE)
 (hl: ∀x∈l,(∃t,x.2.1= .iface "*errors.errorString" (.ptr (.agg [.lit (.string t)])))∧Tryz.prog.globalNamed x.1=some x.2.2∧(Tryz.prog.globals[x.2.2]?).map (·.type)=some 33) (hr:24<W.heap.size): ∃ea,SeesAt W ea:=by
 obtain⟨ps,hv,u,hrows⟩:=h;obtain⟨bs,p,q⟩:=X9 l rest ps hv hl hrows;have m:l.length=17:=by have:=congrArg List.length hG;rw[List.length_map]at this;exact this
 have r:=p.len;rw[List.length_map,m]at r
 have hk: ∀k,k<17→((l.map fun x=>(x.1,x.2.2)).getD k ("",0)).2=JE.getD k 0:=by
  intro k hk;rw[←hG];simp only[List.getD_eq_getElem?_getD,List.getElem?_map];rw[List.getElem?_eq_getElem (by omega)];rfl
 have s: ∀k,101+k-101=k:=fun k=>by omega
 refine⟨fun k=>bs.getD (k-101) ⟨0,0,none⟩,fun k o=> ?_,fun k o=> ?_,fun i j hi v e=> ?_,hr⟩
 ·rw[←hk k o]
  simp only[s];exact(p.get k (by rw[List.length_map,m];exact o)).1
 ·simp only[s]
  exact(p.get k (by rw[List.length_map,m];exact o)).2
 ·simp only[s]at e
  have n:=u.sublist q;rw[List.Nodup,List.pairwise_iff_getElem]at n;rw[List.getD_eq_getElem?_getD,List.getD_eq_getElem?_getD,List.getElem?_eq_getElem (by omega),List.getElem?_eq_getElem (by omega)]at e;simp only[Option.getD_some]at e;rcases Nat.lt_trichotomy i j with hij|hij|hij
  ·exact absurd (by rw[List.getElem_map,List.getElem_map,e]) (n i j (by rw[List.length_map];omega) (by rw[List.length_map];omega) hij)
  ·exact hij
  ·exact absurd (by rw[List.getElem_map,List.getElem_map,e]) (n j i (by rw[List.length_map];omega) (by rw[List.length_map];omega) hij)
end
end Go.Proofs.YtggngahmafbihaaGreatDoor
