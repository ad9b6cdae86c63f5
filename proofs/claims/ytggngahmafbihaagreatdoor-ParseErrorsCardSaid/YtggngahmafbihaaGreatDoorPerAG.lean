/- Contracts, and the plain mathematics beneath. -/
import Derived.Deep.RegionHeld3
import Derived.StillTailTactics
import Derived.IntWalk
import Derived.Test.YtggngahmafbihaaGreatDoorPerAF
set_option linter.unusedVariables false
set_option linter.unusedSimpArgs false
set_option maxRecDepth 100000
set_option maxHeartbeats 4000000
namespace Go.Proofs.YtggngahmafbihaaGreatDoor
open Go.RowKit Go.Lib
section
section
variable {w w' : World} {X : PCtx} {pos : Nat} {deep : Int} {ev : Value}
theorem PsAt.c0(h:PsAt w X pos deep ev):w.cell? ⟨X.P,0,none⟩=some (.slice X.A X.l.length X.c):=cell_of_row w X.P 0 _ _ _ h
theorem PsAt.c1(h:PsAt w X pos deep ev):w.cell? ⟨X.P,1,none⟩=some (.int .i64 pos):=cell_of_row w X.P 1 _ _ _ h
theorem PsAt.c2(h:PsAt w X pos deep ev):w.cell? ⟨X.P,2,none⟩=some (.int .i64 deep):=cell_of_row w X.P 2 _ _ _ h
theorem PsAt.c3(h:PsAt w X pos deep ev):w.cell? ⟨X.P,3,none⟩=some ev:=cell_of_row w X.P 3 _ _ _ h
theorem PsAt.fr(h:PsAt w X pos deep ev)(k:Nat):w.frozen? ⟨X.P,k,none⟩=false:=by unfold PsAt at h;simp[World.frozen?,h]
theorem PsAt.set1(h:PsAt w X pos deep ev)(j:Nat):PsAt (w.setCell ⟨X.P,1,none⟩ (.int .i64 j)) X j deep ev:=by
 unfold PsAt at h⊢;simp[World.setCell,Array.getElem?_modify,h]
theorem PsAt.set2(h:PsAt w X pos deep ev)(j:Int):PsAt (w.setCell ⟨X.P,2,none⟩ (.int .i64 j)) X pos j ev:=by
 unfold PsAt at h⊢;simp[World.setCell,Array.getElem?_modify,h]
theorem PsAt.set3(h:PsAt w X pos deep ev)(u:Value):PsAt (w.setCell ⟨X.P,3,none⟩ u) X pos deep u:=by
 unfold PsAt at h⊢;simp[World.setCell,Array.getElem?_modify,h]
end
theorem PSt.at_{w:World}{X:PCtx}{p:PS}(h:PSt w X p): ∃ev,PsAt w X p.pos p.deep ev∧ErrV w X ev p.err:=h.st
theorem PSt.tok{w:World}{X:PCtx}{p:PS}(h:PSt w X p){j:Nat}{t:Tok}(a:X.l[j]?=some t): ∃(g:Nat)(sa:Option Addr)(sc:Nat),X.A=some ⟨g,0,none⟩∧g<X.P∧
 w.cell? ⟨g,j*7,none⟩=some (.int .i64 t.kind)∧w.cell? ⟨g,j*7+1,none⟩=some (.int .i64 t.line)∧w.cell? ⟨g,j*7+2,none⟩=some (.string t.s)∧w.cell? ⟨g,j*7+3,none⟩=some (.int .i64 t.k)∧
 w.cell? ⟨g,j*7+4,none⟩=some (.int .i64 t.n)∧w.cell? ⟨g,j*7+5,none⟩=some (.string t.t)∧w.cell? ⟨g,j*7+6,none⟩=some (.slice sa 0 sc):=by
 obtain⟨g,sa,sc,e1,e2,e3⟩:=h.tk j t a;have:=e3.c0;have:=e3.c1;have:=e3.c2;have:=e3.c3;have:=e3.c4;have:=e3.c5;have:=e3.c6;rw[Nat.mul_comm j 7];exact⟨g,sa,sc,e1,e2,by assumption,by assumption,by assumption,by assumption,by assumption,by assumption,by assumption⟩
theorem jb{w:World}{X:PCtx}{ev:Value}{x:Option Int}(h:ErrV w X ev (some x)): ∃t v,ev= .iface t v:=by
 cases x with
 |none=>exact⟨_,_,h⟩
 |some line=>obtain⟨A,_,h,_⟩:=h;exact⟨_,_,h⟩
theorem kp{l:List Tok}{i:Nat}(h:i<l.length): ∃t,l[i]?=some t:=⟨l[i],List.getElem?_eq_getElem h⟩
theorem qfF{l:List Tok}{p:PS}{t:Tok}{s:List UInt8}(a:p.err=none)(h:l[p.pos]?=some t):qj l p s=((t.kind==4||t.kind==2) && t.s.data.toList==s):=by
 unfold qj;rw[a,h];rfl
theorem KN{l:List Tok}{p:PS}{s:List UInt8}(h:l[p.pos]?=none):qj l p s=false:=by
 unfold qj;rw[h];exact Bool.and_false _
theorem qei{l:List Tok}{p:PS}{s:List UInt8}{e:Option Int}(h:p.err=some e):qj l p s=false:=by
 unfold qj;rw[h];rfl
theorem Qs{l:List Tok}{p:PS}{s:List UInt8}(h:qj l p s=true):p.pos<l.length:=by
 rcases Nat.lt_or_ge p.pos l.length with a|hge
 ·exact a
 ·rw[KN (List.getElem?_eq_none hge)]at h;cases h
theorem Jy(X:PCtx)(p:PS)(s:ByteArray)(w:World)(h:PSt w X p):
 Calls Tryz.prog 57 #[.pointer (some ⟨X.P,0,none⟩),.string s] w fun e w'=>e= .returned (.bool (qj X.l p s.data.toList))∧Below w.heap.size w w':=by
 obtain⟨ev,B,C⟩:=h.at_;have f:=B.c0;have c1:=B.c1;have c3:=B.c3
 cases m:p.err with
 |some x=>
  rw[m]at C;obtain⟨t,v,rfl⟩:=jb C;have b:=hid (qei (l:=X.l) (s:=s.data.toList) m);clear h B C m;go_enter Tryz.func57,Tryz.ntmps57
  go_wp2_with fail
  go_quiet (fail)
  go_wp2_with fail
  go_ret
  exact⟨qw b.out.symm,rfl,rfl,rfl,Nat.le_refl _,fun _ _=>rfl⟩
 |none=>
  rw[m]at C;obtain rfl:ev= .nilIface:=C;by_cases hp:p.pos<X.l.length
  ·obtain⟨t,Q⟩:=kp hp
   obtain⟨g,sa,sc,hA,hg,t0,o,r,u,y,z,A⟩:=h.tok Q;have U:(0:Int)≤(p.pos:Int):=by omega
   have S:(p.pos:Int)<(X.l.length:Int):=by omega
   have O: ¬(X.l.length:Int)≤(p.pos:Int):=by omega
   have b:=hid (qfF (s:=s.data.toList) m Q);rw[hA]at f;obtain⟨n,hn⟩: ∃n,n=X.l.length:=⟨_,rfl⟩
   obtain⟨q,T⟩: ∃q,q=p.pos:=⟨_,rfl⟩
   rw[←hn]at f S O;rw[←T]at c1 U S O t0 o r u y z A;clear h B m Q hp hn T;obtain⟨j,D⟩: ∃j,j=t.kind:=⟨_,rfl⟩
   rw[←D]at b t0;clear D;by_cases N:j=4
   ·subst N
    go_enter Tryz.func57,Tryz.ntmps57
    go_wp2_with fail
    go_quiet (fail)
    go_wp2_with fail
    generalize a:World.drewN _ _=wq;have E:wq.cell? ⟨X.P,0,none⟩=some (.slice (some ⟨g,0,none⟩) n X.c):=by rw[←a];exact f
    have F:wq.cell? ⟨X.P,1,none⟩=some (.int .i64 q):=by rw[←a];exact c1
    have G:wq.cell? ⟨g,q*7,none⟩=some (.int .i64 4):=by rw[←a];exact t0
    have H:wq.cell? ⟨g,q*7+1,none⟩=some (.int .i64 t.line):=by rw[←a];exact o
    have I:wq.cell? ⟨g,q*7+2,none⟩=some (.string t.s):=by rw[←a];exact r
    have J:wq.cell? ⟨g,q*7+3,none⟩=some (.int .i64 t.k):=by rw[←a];exact u
    have K:wq.cell? ⟨g,q*7+4,none⟩=some (.int .i64 t.n):=by rw[←a];exact y
    have L:wq.cell? ⟨g,q*7+5,none⟩=some (.string t.t):=by rw[←a];exact z
    have M:wq.cell? ⟨g,q*7+6,none⟩=some (.slice sa 0 sc):=by rw[←a];exact A
    have d:=hid (show Below w.heap.size w wq by rw[←a];exact⟨rfl,rfl,rfl,Nat.le_refl _,fun _ _=>rfl⟩);clear a f c1 c3 t0 o r u y z A
    go_region_held3 (fun W=>W.cell? ⟨X.P,0,none⟩=some (.slice (some ⟨g,0,none⟩) n X.c)∧W.cell? ⟨X.P,1,none⟩=some (.int .i64 q)∧W.cell? ⟨g,q*7,none⟩=some (.int .i64 4)∧W.cell? ⟨g,q*7+1,none⟩=some (.int .i64 t.line)∧W.cell? ⟨g,q*7+2,none⟩=some (.string t.s)∧W.cell? ⟨g,q*7+3,none⟩=some (.int .i64 t.k)∧W.cell? ⟨g,q*7+4,none⟩=some (.int .i64 t.n)∧W.cell? ⟨g,q*7+5,none⟩=some (.string t.t)∧W.cell? ⟨g,q*7+6,none⟩=some (.slice sa 0 sc)) (first|assumption|exact⟨E,F,G,H,I,J,K,L,M⟩|go_keep) (fail)
    go_wp2_with fail
    go_ret
    exact⟨qw (by rw[b.out,Lib.toList_data,Lib.toList_data];rfl),(d.out.alloc d.out.size _).drew⟩
   by_cases R:j=2
   ·subst R
    clear N;go_enter Tryz.func57,Tryz.ntmps57
    go_wp2_with fail
    go_quiet (fail)
    go_wp2_with fail
    generalize a:World.drewN _ _=wq;have E:wq.cell? ⟨X.P,0,none⟩=some (.slice (some ⟨g,0,none⟩) n X.c):=by rw[←a];exact f
    have F:wq.cell? ⟨X.P,1,none⟩=some (.int .i64 q):=by rw[←a];exact c1
    have G:wq.cell? ⟨g,q*7,none⟩=some (.int .i64 2):=by rw[←a];exact t0
    have H:wq.cell? ⟨g,q*7+1,none⟩=some (.int .i64 t.line):=by rw[←a];exact o
    have I:wq.cell? ⟨g,q*7+2,none⟩=some (.string t.s):=by rw[←a];exact r
    have J:wq.cell? ⟨g,q*7+3,none⟩=some (.int .i64 t.k):=by rw[←a];exact u
    have K:wq.cell? ⟨g,q*7+4,none⟩=some (.int .i64 t.n):=by rw[←a];exact y
    have L:wq.cell? ⟨g,q*7+5,none⟩=some (.string t.t):=by rw[←a];exact z
    have M:wq.cell? ⟨g,q*7+6,none⟩=some (.slice sa 0 sc):=by rw[←a];exact A
    have d:=hid (show Below w.heap.size w wq by rw[←a];exact⟨rfl,rfl,rfl,Nat.le_refl _,fun _ _=>rfl⟩);clear a f c1 c3 t0 o r u y z A
    go_region_held3 (fun W=>W.cell? ⟨X.P,0,none⟩=some (.slice (some ⟨g,0,none⟩) n X.c)∧W.cell? ⟨X.P,1,none⟩=some (.int .i64 q)∧W.cell? ⟨g,q*7,none⟩=some (.int .i64 2)∧W.cell? ⟨g,q*7+1,none⟩=some (.int .i64 t.line)∧W.cell? ⟨g,q*7+2,none⟩=some (.string t.s)∧W.cell? ⟨g,q*7+3,none⟩=some (.int .i64 t.k)∧W.cell? ⟨g,q*7+4,none⟩=some (.int .i64 t.n)∧W.cell? ⟨g,q*7+5,none⟩=some (.string t.t)∧W.cell? ⟨g,q*7+6,none⟩=some (.slice sa 0 sc)) (first|assumption|exact⟨E,F,G,H,I,J,K,L,M⟩|go_keep) (fail)
    go_wp2_with fail
    go_ret
    exact⟨qw (by rw[b.out,Lib.toList_data,Lib.toList_data];rfl),(d.out.alloc d.out.size _).drew⟩
   ·have Y:(j==4)=false:=beq_eq_false_iff_ne.2 N
    have V:(j==2)=false:=beq_eq_false_iff_ne.2 R;rw[Y,V]at b;clear N R;go_enter Tryz.func57,Tryz.ntmps57
    go_wp2_with fail
    go_quiet (fail)
    go_wp2_with fail
    generalize a:World.drewN _ _=wq;have E:wq.cell? ⟨X.P,0,none⟩=some (.slice (some ⟨g,0,none⟩) n X.c):=by rw[←a];exact f
    have F:wq.cell? ⟨X.P,1,none⟩=some (.int .i64 q):=by rw[←a];exact c1
    have G:wq.cell? ⟨g,q*7,none⟩=some (.int .i64 j):=by rw[←a];exact t0
    have H:wq.cell? ⟨g,q*7+1,none⟩=some (.int .i64 t.line):=by rw[←a];exact o
    have I:wq.cell? ⟨g,q*7+2,none⟩=some (.string t.s):=by rw[←a];exact r
    have J:wq.cell? ⟨g,q*7+3,none⟩=some (.int .i64 t.k):=by rw[←a];exact u
    have K:wq.cell? ⟨g,q*7+4,none⟩=some (.int .i64 t.n):=by rw[←a];exact y
    have L:wq.cell? ⟨g,q*7+5,none⟩=some (.string t.t):=by rw[←a];exact z
    have M:wq.cell? ⟨g,q*7+6,none⟩=some (.slice sa 0 sc):=by rw[←a];exact A
    have d:=hid (show Below w.heap.size w wq by rw[←a];exact⟨rfl,rfl,rfl,Nat.le_refl _,fun _ _=>rfl⟩);clear a f c1 c3 t0 o r u y z A
    go_region_held3 (fun W=>W.cell? ⟨X.P,0,none⟩=some (.slice (some ⟨g,0,none⟩) n X.c)∧W.cell? ⟨X.P,1,none⟩=some (.int .i64 q)∧W.cell? ⟨g,q*7,none⟩=some (.int .i64 j)∧W.cell? ⟨g,q*7+1,none⟩=some (.int .i64 t.line)∧W.cell? ⟨g,q*7+2,none⟩=some (.string t.s)∧W.cell? ⟨g,q*7+3,none⟩=some (.int .i64 t.k)∧W.cell? ⟨g,q*7+4,none⟩=some (.int .i64 t.n)∧W.cell? ⟨g,q*7+5,none⟩=some (.string t.t)∧W.cell? ⟨g,q*7+6,none⟩=some (.slice sa 0 sc)) (first|assumption|exact⟨E,F,G,H,I,J,K,L,M⟩|go_keep) (fail)
    go_wp2_with fail
    go_ret
    exact⟨qw b.out.symm,(d.out.alloc d.out.size _).drew⟩
  ·have i:X.l[p.pos]?=none:=List.getElem?_eq_none (by omega)
   have b:=hid (KN (s:=s.data.toList) i);have O:(X.l.length:Int)≤(p.pos:Int):=by omega
   clear h B m hp i;go_enter Tryz.func57,Tryz.ntmps57
   go_wp2_with fail
   go_quiet (fail)
   go_wp2_with fail
   go_ret
   exact⟨qw b.out.symm,rfl,rfl,rfl,Nat.le_refl _,fun _ _=>rfl⟩
theorem ErrV.keep{w w':World}{X:PCtx}{ev:Value}{x:Option (Option Int)}(h:ErrV w X ev x)(a: ∀b,X.P<b→b<w.heap.size→w'.heap[b]?=w.heap[b]?):ErrV w' X ev x:=by
 cases x with
 |none=>exact h
 |some e=>
  cases e with
  |none=>exact h
  |some line=>obtain⟨A,h1,h2,h3⟩:=h;exact⟨A,h1,h2,(a A h1 (zV h3)).trans h3⟩
theorem PSt.moved{w w':World}{X:PCtx}{p q:PS}{ev:Value}(h:PSt w X p)(c: ∀b,b<X.P→w'.heap[b]?=w.heap[b]?)(hz:w.heap.size≤w'.heap.size)(e:PsAt w' X q.pos q.deep ev)(d:ErrV w' X ev q.err)(a:q.pos≤X.l.length):PSt w' X q:=
 ⟨⟨ev,e,d⟩,fun j t f=>by
   obtain⟨g,sa,sc,e1,e2,e3⟩:=h.tk j t f;have hk: ∀k,w'.cell? ⟨g,k,none⟩=w.cell? ⟨g,k,none⟩:=fun k=>World.cell?_of_block (w:=w) (c g e2);exact⟨g,sa,sc,e1,e2,⟨(hk _).trans e3.c0,(hk _).trans e3.c1,(hk _).trans e3.c2,(hk _).trans e3.c3,(hk _).trans e3.c4,(hk _).trans e3.c5,(hk _).trans e3.c6⟩⟩,
  h.er.keep (fun b hb=>c b (by have:=h.room;omega)) hz,h.room,a,h.len⟩
theorem ji(w:World)(a:Addr)(v:Value):(w.setCell a v).heap.size=w.heap.size:=by simp[World.setCell]
theorem Mvd.next{a w:World}{X:PCtx}{p:PS}(h:Mvd a w X p)(hp:p.pos<X.l.length):Mvd a (w.setCell ⟨X.P,1,none⟩ (.int .i64 (p.pos+1:Nat))) X (qb p):=by
 obtain⟨ev,d,c⟩:=h.st.at_;refine⟨h.st.moved (fun b hb=>Below.heap_setCell _ _ _ _ (by show b≠X.P;omega)) (by rw[ji];exact Nat.le_refl _) (d.set1 (p.pos+1)) (c.keep (fun b hb _=>Below.heap_setCell _ _ _ _ (by show b≠X.P;omega))) hp,qJ h.grown (.inl rfl) _⟩
theorem Mvd.dive{a w:World}{X:PCtx}{p:PS}(h:Mvd a w X p)(d:Int):Mvd a (w.setCell ⟨X.P,2,none⟩ (.int .i64 d)) X {p with deep:=d}:=by
 obtain⟨ev,e,c⟩:=h.st.at_;refine⟨h.st.moved (fun b hb=>Below.heap_setCell _ _ _ _ (by show b≠X.P;omega)) (by rw[ji];exact Nat.le_refl _) (e.set2 d) (c.keep (fun b hb _=>Below.heap_setCell _ _ _ _ (by show b≠X.P;omega))) h.st.pos,qJ h.grown (.inl rfl) _⟩
theorem Mvd.deepErr{a w:World}{X:PCtx}{p:PS}(h:Mvd a w X p):Mvd a (w.setCell ⟨X.P,3,none⟩ (.iface 270 (.pointer (some (X.ea 112))))) X {p with err:=some none}:=by
 obtain⟨ev,c,d⟩:=h.st.at_;exact⟨h.st.moved (fun b hb=>Below.heap_setCell _ _ _ _ (by show b≠X.P;omega)) (by rw[ji];exact Nat.le_refl _) (c.set3 _) rfl h.st.pos,qJ h.grown (.inl rfl) _⟩
theorem Mvd.lineErr{a w:World}{X:PCtx}{p:PS}(h:Mvd a w X p)(line:Int):
 Mvd a ((w.alloc (.cells #[.int .i64 line,.iface 270 (.pointer (some (X.ea 111)))] 73)).setCell ⟨X.P,3,none⟩ (.iface 70 (.pointer (some ⟨w.heap.size,0,none⟩)))) X {p with err:=some (some line)}:=by
 have c:=h.st.lt;have h2:=h.alloc (.cells #[.int .i64 line,.iface 270 (.pointer (some (X.ea 111)))] 73);obtain⟨ev,d,e⟩:=h2.st.at_;refine⟨h2.st.moved (fun b hb=>Below.heap_setCell _ _ _ _ (by show b≠X.P;omega)) (by rw[ji];exact Nat.le_refl _) (d.set3 _) ⟨w.heap.size,c,rfl,?_⟩ h.st.pos,qJ h2.grown (.inl rfl) _⟩;rw[Below.heap_setCell _ _ _ _ (by show w.heap.size≠X.P;omega)];exact heap_alloc_new w _
theorem Xg(X:PCtx)(p:PS)(s:ByteArray)(w:World)(h:PSt w X p):
 Calls Tryz.prog 65 #[.pointer (some ⟨X.P,0,none⟩),.string s] w fun e w'=>e= .returned (.bool (qj X.l p s.data.toList))∧Mvd w w' X (if qj X.l p s.data.toList then qb p else p):=by
 have g:=hid (Jy X p s w h);have k:=hid (Mvd.of h);have m:=h.len;have f:=hid (Qs (l:=X.l) (p:=p) (s:=s.data.toList));obtain⟨b,hb⟩: ∃b,b=qj X.l p s.data.toList:=⟨_,rfl⟩
 rw[←hb]at g f⊢;clear hb h
 cases b with
 |false=>
  go_enter Tryz.func65,Tryz.ntmps65
  go_wp2_with fail
  refine g.out.mono ?_;rintro e o ⟨rfl,a⟩;have c:=hid (k.out.below a);clear a;go_wp2_with fail
  go_ret
  exact⟨rfl,c.out⟩
 |true=>
  have j:=f.out rfl;go_enter Tryz.func65,Tryz.ntmps65
  go_wp2_with fail
  refine g.out.mono ?_;rintro e o ⟨rfl,a⟩;have d:=k.out.below a;obtain⟨ev,i,n⟩:=d.st.at_;have c1:=i.c1;have q:=i.fr 1;have c:=hid d;clear a d i n;go_wp2_with fail
  go_ret
  exact⟨rfl,c.out.next j⟩
end
theorem XJ{l:List Tok}{p:PS}{t:Tok}(h:l[p.pos]?=some t):qd l p=t.line:=by unfold qd;rw[h]
theorem ZZ{l:List Tok}{p:PS}{t:Tok}(h:l[p.pos]?=none)(hl:l[l.length-1]?=some t):qd l p=t.line:=by unfold qd;rw[h,List.getLast?_eq_getElem?,hl]
theorem Z0{l:List Tok}{p:PS}(h:l.length=0):qd l p=1:=by
 have:l= []:=List.eq_nil_of_length_eq_zero h;subst this;rfl
theorem qeo(X:PCtx)(p:PS)(w:World)(h:PSt w X p):
 Calls Tryz.prog 64 #[.pointer (some ⟨X.P,0,none⟩)] w fun e w'=>e= .returned (.int .i64 (qd X.l p))∧Below w.heap.size w w':=by
 obtain⟨ev,f,o⟩:=h.at_;have c:=f.c0;have c1:=f.c1;by_cases hp:p.pos<X.l.length
 ·obtain⟨t,b⟩:=kp hp
  obtain⟨g,sa,sc,hA,hg,t0,A,r,s,u,v,x⟩:=h.tok b;have y:(0:Int)≤(p.pos:Int):=by omega
  have j:(p.pos:Int)<(X.l.length:Int):=by omega
  have d:=hid (XJ b);rw[hA]at c;obtain⟨n,hn⟩: ∃n,n=X.l.length:=⟨_,rfl⟩
  obtain⟨q,z⟩: ∃q,q=p.pos:=⟨_,rfl⟩
  rw[←hn]at c j;rw[←z]at c1 y j A;clear h f o b hp hn z t0 r s u v x;go_enter Tryz.func64,Tryz.ntmps64
  go_wp2_with fail
  go_quiet (fail)
  go_wp2_with fail
  go_quiet (fail)
  go_wp2_with fail
  go_ret
  exact⟨zm d.out.symm,rfl,rfl,rfl,Nat.le_refl _,fun _ _=>rfl⟩
 ·have a:X.l[p.pos]?=none:=List.getElem?_eq_none (by omega)
  have k: ¬(p.pos:Int)<(X.l.length:Int):=by omega
  by_cases hz:X.l.length=0
  ·have d:=hid (Z0 (p:=p) hz)
   rw[hz]at c k;clear h f o hp a hz;go_enter Tryz.func64,Tryz.ntmps64
   go_wp2_with fail
   go_quiet (fail)
   go_wp2_with fail
   go_ret
   exact⟨zm d.out.symm,rfl,rfl,rfl,Nat.le_refl _,fun _ _=>rfl⟩
  ·obtain⟨n,hn⟩: ∃n,X.l.length=n+1:=⟨X.l.length-1,by omega⟩
   obtain⟨t,b⟩:=kp (l:=X.l) (i:=X.l.length-1) (by omega);have d:=hid (ZZ a b);rw[show X.l.length-1=n by omega]at b;obtain⟨g,sa,sc,hA,hg,t0,A,r,s,u,v,x⟩:=h.tok b;rw[hA]at c;rw[hn]at c k;have B:(0:Int)<((n+1:Nat):Int):=by omega
   have y:(0:Int)≤(n:Int):=by omega
   have j:(n:Int)<((n+1:Nat):Int):=by omega
   have C:IntKind.i64.wrap (((n+1:Nat):Int)-1)=(n:Int):=by
    have:=h.len;rw[show(((n+1:Nat):Int)-1)=(n:Int)by omega];exact IntWalk.i64_in _ ⟨by omega,by omega⟩
   obtain⟨m,hm⟩: ∃m,m=n+1:=⟨_,rfl⟩
   rw[←hm]at c k B j C;clear h f o hp a hz b hn hm t0 r s u v x;go_enter Tryz.func64,Tryz.ntmps64
   go_wp2_with fail
   go_quiet (fail)
   go_wp2_with fail
   go_quiet (fail)
   go_wp2_with fail
   go_ret
   exact⟨zm d.out.symm,rfl,rfl,rfl,Nat.le_refl _,fun _ _=>rfl⟩
theorem ZW{l:List Tok}{p:PS}(h:p.err=none):zd l p={p with err:=some (some (qd l p))}:=by unfold zd;rw[h];rfl
theorem ZX{l:List Tok}{p:PS}{e:Option Int}(h:p.err=some e):zd l p=p:=by unfold zd;rw[h];rfl
theorem kI(X:PCtx)(p:PS)(w:World)(h:PSt w X p):
 Calls Tryz.prog 27 #[.pointer (some ⟨X.P,0,none⟩)] w fun e w'=>e= .returned (.tuple #[])∧Mvd w w' X (zd X.l p):=by
 have B:=h.lt;have s:=h.er.syn;have E:=hid (Mvd.of h);obtain⟨ev,k,C⟩:=h.at_;have z:=k.c0;have c1:=k.c1;have c3:=k.c3;have V:=k.fr 3
 cases D:p.err with
 |some x=>
  rw[D]at C;obtain⟨t,v,rfl⟩:=jb C;rw[ZX D];clear h k C D;go_enter Tryz.func27,Tryz.ntmps27
  go_wp2_with fail
  refine bodyPost_ret (results_none rfl _ _ _) rfl ?_;exact⟨rfl,E.out⟩
 |none=>
  rw[D]at C;obtain rfl:ev= .nilIface:=C;rw[ZW D];by_cases hp:p.pos<X.l.length
  ·obtain⟨t,u⟩:=kp hp
   obtain⟨g,sa,sc,hA,hg,t0,R,H,I,J,K,L⟩:=h.tok u;have M:(0:Int)≤(p.pos:Int):=by omega
   have F:(p.pos:Int)<(X.l.length:Int):=by omega
   rw[XJ u];rw[hA]at z;obtain⟨n,hn⟩: ∃n,n=X.l.length:=⟨_,rfl⟩
   obtain⟨q,O⟩: ∃q,q=p.pos:=⟨_,rfl⟩
   rw[←hn]at z F;rw[←O]at c1 M F R;have j:=hid k;clear h k u hp hn O t0 H I J K L;go_enter Tryz.func27,Tryz.ntmps27
   go_wp2_with fail
   go_quiet (fail)
   go_wp2_with fail
   go_quiet (fail)
   generalize b:World.drewN _ _=wq;have d:Below w.heap.size w wq:=by rw[←b];exact⟨rfl,rfl,rfl,Nat.le_refl _,fun _ _=>rfl⟩
   have f:=hid (E.out.below d);have a:=(d.block _ B).trans j.out;have Q:=fun o=>(PsAt.c3 ((Below.heap_alloc wq o _ (zV a)).trans a))
   have N:=fun o=>(PsAt.fr ((Below.heap_alloc wq o _ (zV a)).trans a) 3)
   have y:wq.cell? ⟨1,0,none⟩=some (.iface 270 (.pointer (some (X.ea 111)))):=by rw[←b];exact s
   clear b d a;go_wp2_with fail
   go_end0
   exact⟨rfl,f.out.lineErr t.line⟩
  ·have r:X.l[p.pos]?=none:=List.getElem?_eq_none (by omega)
   have G: ¬(p.pos:Int)<(X.l.length:Int):=by omega
   by_cases hz:X.l.length=0
   ·rw[Z0 hz]
    rw[hz]at z G;have j:=hid k;clear h k hp r hz;go_enter Tryz.func27,Tryz.ntmps27
    go_wp2_with fail
    go_quiet (fail)
    generalize b:World.drewN _ _=wq;have d:Below w.heap.size w wq:=by rw[←b];exact⟨rfl,rfl,rfl,Nat.le_refl _,fun _ _=>rfl⟩
    have f:=hid (E.out.below d);have a:=(d.block _ B).trans j.out;have Q:=fun o=>(PsAt.c3 ((Below.heap_alloc wq o _ (zV a)).trans a))
    have N:=fun o=>(PsAt.fr ((Below.heap_alloc wq o _ (zV a)).trans a) 3)
    have y:wq.cell? ⟨1,0,none⟩=some (.iface 270 (.pointer (some (X.ea 111)))):=by rw[←b];exact s
    have U:wq.cell? ⟨X.P,0,none⟩=some (.slice X.A 0 X.c):=by rw[←b];exact z
    clear b d a;go_wp2_with fail
    go_end0
    exact⟨rfl,f.out.lineErr 1⟩
   ·obtain⟨n,hn⟩: ∃n,X.l.length=n+1:=⟨X.l.length-1,by omega⟩
    obtain⟨t,u⟩:=kp (l:=X.l) (i:=X.l.length-1) (by omega);rw[ZZ r u];rw[show X.l.length-1=n by omega]at u;obtain⟨g,sa,sc,hA,hg,t0,R,H,I,J,K,L⟩:=h.tok u;rw[hA]at z;rw[hn]at z G;have S:(0:Int)<((n+1:Nat):Int):=by omega
    have M:(0:Int)≤(n:Int):=by omega
    have F:(n:Int)<((n+1:Nat):Int):=by omega
    have T:IntKind.i64.wrap (((n+1:Nat):Int)-1)=(n:Int):=by
     have:=h.len;rw[show(((n+1:Nat):Int)-1)=(n:Int)by omega];exact IntWalk.i64_in _ ⟨by omega,by omega⟩
    obtain⟨m,hm⟩: ∃m,m=n+1:=⟨_,rfl⟩
    rw[←hm]at z G S F T;have j:=hid k;clear h k hp r hz u hn hm t0 H I J K L;go_enter Tryz.func27,Tryz.ntmps27
    go_wp2_with fail
    go_quiet (fail)
    go_wp2_with fail
    go_quiet (fail)
    generalize b:World.drewN _ _=wq;have d:Below w.heap.size w wq:=by rw[←b];exact⟨rfl,rfl,rfl,Nat.le_refl _,fun _ _=>rfl⟩
    have f:=hid (E.out.below d);have a:=(d.block _ B).trans j.out;have Q:=fun o=>(PsAt.c3 ((Below.heap_alloc wq o _ (zV a)).trans a))
    have N:=fun o=>(PsAt.fr ((Below.heap_alloc wq o _ (zV a)).trans a) 3)
    have y:wq.cell? ⟨1,0,none⟩=some (.iface 270 (.pointer (some (X.ea 111)))):=by rw[←b];exact s
    clear b d a;go_wp2_with fail
    go_end0
    exact⟨rfl,f.out.lineErr t.line⟩
theorem qfK(X:PCtx)(p:PS)(s:ByteArray)(w:World)(h:PSt w X p):
 Calls Tryz.prog 66 #[.pointer (some ⟨X.P,0,none⟩),.string s] w fun e w'=>e= .returned (.tuple #[])∧Mvd w w' X (qf X.l p s.data.toList):=by
 have f:=hid (Xg X p s w h);unfold qf;obtain⟨b,hb⟩: ∃b,b=qj X.l p s.data.toList:=⟨_,rfl⟩
 rw[←hb]at f⊢;clear hb h
 cases b with
 |true=>
  go_enter Tryz.func66,Tryz.ntmps66
  go_wp2_with fail
  refine f.out.mono ?_;rintro e g ⟨rfl,hm⟩;have c:=hid hm;clear hm;go_wp2_with fail
  go_end0
  exact⟨rfl,c.out⟩
 |false=>
  go_enter Tryz.func66,Tryz.ntmps66
  go_wp2_with fail
  refine f.out.mono ?_;rintro e g ⟨rfl,hm⟩;have i:=hid (kI X p g hm.st);have c:=hid hm;clear hm;go_wp2_with fail
  refine i.out.mono ?_;rintro e w2 ⟨rfl,a⟩;have d:=hid (c.out.trans a);clear a;go_wp2_with fail
  go_end0
  exact⟨rfl,d.out⟩
theorem qcf{p:PS}(h:p.err=none)(hd:p.deep+1≤160):qh p={p with deep:=p.deep+1}:=by unfold qh;rw[if_neg (by rintro⟨a,_⟩;omega)]
theorem qa5{p:PS}(h:p.err=none)(hd:160<p.deep+1):qh p={p with deep:=p.deep+1,err:=some none}:=by unfold qh;rw[if_pos ⟨hd,by rw[h];rfl⟩]
theorem qa4{p:PS}{e:Option Int}(h:p.err=some e):qh p={p with deep:=p.deep+1}:=by unfold qh;rw[if_neg (by rintro⟨_,a⟩;rw[h]at a;cases a)]
theorem Xy(X:PCtx)(p:PS)(w:World)(h:PSt w X p)(h0:0≤p.deep)(h1:p.deep≤1000):
 Calls Tryz.prog 59 #[.pointer (some ⟨X.P,0,none⟩)] w fun e w'=>e= .returned (.bool (qh p).err.isNone)∧Mvd w w' X (qh p):=by
 have k:=h.lt;have l:=h.room;have j:=h.er.deep;have g:=hid (Mvd.of h);obtain⟨ev,c,f⟩:=h.at_;have c2:=c.c2;have c3:=c.c3;have o:=c.fr 3;have n:=c.fr 2;obtain⟨d,hd⟩: ∃d,d=p.deep:=⟨_,rfl⟩
 have m:IntKind.i64.wrap (d+1)=d+1:=IntWalk.i64_in _ ⟨by omega,by omega⟩
 cases a:p.err with
 |some x=>
  rw[a]at f;obtain⟨t,v,rfl⟩:=jb f;rw[qa4 a,a];have b:=hid (g.out.dive (d+1));rw[a]at b;rw[←hd]at h0 h1 c2⊢;clear h c f a hd;by_cases hx:(160:Int)<d+1
  ·go_enter Tryz.func59,Tryz.ntmps59
   go_wp2_with fail
   go_ret
   exact⟨rfl,b.out⟩
  ·go_enter Tryz.func59,Tryz.ntmps59
   go_wp2_with fail
   go_ret
   exact⟨rfl,b.out⟩
 |none=>
  rw[a]at f;obtain rfl:ev= .nilIface:=f;have b:=hid (g.out.dive (d+1));rw[a]at b;by_cases hx:(160:Int)<d+1
  ·rw[qa5 a (by omega)]
   have i:=hid b.out.deepErr;rw[←hd]at h0 h1 c2⊢;clear h c a hd;go_enter Tryz.func59,Tryz.ntmps59
   go_wp2_with fail
   go_ret
   exact⟨rfl,i.out⟩
  ·rw[qcf a (by omega),a]
   rw[←hd]at h0 h1 c2⊢;clear h c a hd;go_enter Tryz.func59,Tryz.ntmps59
   go_wp2_with fail
   go_ret
   exact⟨rfl,b.out⟩
theorem je(X:PCtx)(p:PS)(w:World)(h:PSt w X p)(h0:0≤p.deep)(h1:p.deep≤1000):
 Calls Tryz.prog 60 #[.pointer (some ⟨X.P,0,none⟩)] w fun e w'=>e= .returned (.tuple #[])∧Mvd w w' X (qu p):=by
 have b:=hid ((Mvd.of h).dive (p.deep-1));obtain⟨ev,a,c⟩:=h.at_;have c2:=a.c2;have f:=a.fr 2;have d:IntKind.i64.wrap (p.deep-1)=p.deep-1:=IntWalk.i64_in _ ⟨by omega,by omega⟩;unfold qu;clear h a c;go_enter Tryz.func60,Tryz.ntmps60
 go_wp2_with fail
 go_end0
 exact⟨rfl,b.out⟩
theorem qbn{l:List Tok}{p:PS}{e:Option Int}(h:p.err=some e):qE l p=(⟨#[]⟩,zd l p):=by unfold qE;rw[h]
theorem qbp{l:List Tok}{p:PS}(h:l[p.pos]?=none):qE l p=(⟨#[]⟩,zd l p):=by
 unfold qE;rw[h];cases p.err<;>rfl
theorem qbo{l:List Tok}{p:PS}{t:Tok}(a:p.err=none)(h:l[p.pos]?=some t)(hk:t.kind≠1):qE l p=(⟨#[]⟩,zd l p):=by
 unfold qE;rw[a,h];simp only;rw[if_neg (by simpa using hk)]
theorem qcu{l:List Tok}{p:PS}{t:Tok}(a:p.err=none)(h:l[p.pos]?=some t)(hk:t.kind=1):qE l p=(t.s,qb p):=by
 unfold qE;rw[a,h];simp only;rw[if_pos (by simpa using hk)]
theorem Zm(X:PCtx)(p:PS)(w:World)(h:PSt w X p):
 Calls Tryz.prog 108 #[.pointer (some ⟨X.P,0,none⟩)] w fun e w'=>e= .returned (.string (qE X.l p).1)∧Mvd w w' X (qE X.l p).2:=by
 have S:=h.lt;have i:=hid (Mvd.of h);obtain⟨ev,d,o⟩:=h.at_;have A:=d.c0;have c1:=d.c1;have c3:=d.c3;have T:=d.fr 1;have N:=hid h.len;have y:=hid (fun W (hb:Below w.heap.size w W)=>kI X p W (h.below hb))
 cases b:p.err with
 |some x=>
  rw[b]at o;obtain⟨t,v,rfl⟩:=jb o;rw[qbn b];clear h d o b;go_enter Tryz.func108,Tryz.ntmps108
  go_wp2_with fail
  go_quiet (fail)
  go_wp2_with fail
  refine(y.out (World.drewN w _) ⟨rfl,rfl,rfl,Nat.le_refl _,fun _ _=>rfl⟩).mono ?_;rintro e M ⟨rfl,hm⟩;have a:=hid ((i.out.below (c:=World.drewN w _) ⟨rfl,rfl,rfl,Nat.le_refl _,fun _ _=>rfl⟩).trans hm);clear hm;go_wp2_with fail
  go_ret
  exact⟨rfl,a.out⟩
 |none=>
  rw[b]at o;obtain rfl:ev= .nilIface:=o;by_cases hp:p.pos<X.l.length
  ·obtain⟨t,u⟩:=kp hp
   obtain⟨g,sa,sc,hA,hg,t0,G,H,I,J,K,L⟩:=h.tok u;have C:(0:Int)≤(p.pos:Int):=by omega
   have z:(p.pos:Int)<(X.l.length:Int):=by omega
   have m:decide (X.l.length≤p.pos)=false:=decide_eq_false (by omega)
   have Q:IntKind.i64.wrap ((p.pos:Int)+1-1)=(p.pos:Int):=by
    have:=h.len;rw[show((p.pos:Int)+1-1)=(p.pos:Int)by omega];exact IntWalk.i64_in _ ⟨by omega,by omega⟩
   rw[hA]at A;by_cases hk:t.kind=1
   ·rw[qcu b u hk]
    rw[hk]at t0;have O:=hid (i.out.next hp);have k:=hid (fun(j:Nat)=>(i.out.below (c:=w.drewN j) ⟨rfl,rfl,rfl,Nat.le_refl _,fun _ _=>rfl⟩).next hp);obtain⟨n,hn⟩: ∃n,n=X.l.length:=⟨_,rfl⟩
    obtain⟨q,s⟩: ∃q,q=p.pos:=⟨_,rfl⟩
    rw[←hn]at A z m;rw[←s]at c1 C z m t0 H Q O k;have D:q≤1000000:=by have:=N.out;omega
    have R: ¬g=X.P:=by omega
    clear h d b u hp s G I J K L hk y hn;go_enter Tryz.func108,Tryz.ntmps108
    go_wp2_with fail
    go_quiet (fail)
    go_wp2_with fail
    go_quiet (fail)
    go_wp2_with fail
    go_ret
    exact⟨rfl,((k.out _).below ⟨rfl,rfl,rfl,Nat.le_refl _,fun _ _=>rfl⟩)⟩
   ·rw[qbo b u hk]
    have F:(t.kind==1)=false:=beq_eq_false_iff_ne.2 hk;have B:(t.kind !=1)=true:=by rw[bne,F];rfl
    obtain⟨E,r⟩: ∃E,E=t.kind:=⟨_,rfl⟩
    rw[←r]at t0 F B;obtain⟨n,hn⟩: ∃n,n=X.l.length:=⟨_,rfl⟩
    obtain⟨q,s⟩: ∃q,q=p.pos:=⟨_,rfl⟩
    rw[←hn]at A z m;rw[←s]at c1 C z m t0;clear h d b u hp hn s G H I J K L hk r;go_enter Tryz.func108,Tryz.ntmps108
    go_wp2_with fail
    go_quiet (fail)
    go_wp2_with fail
    refine(y.out (World.drewN w _) ⟨rfl,rfl,rfl,Nat.le_refl _,fun _ _=>rfl⟩).mono ?_;rintro e M ⟨rfl,hm⟩;have a:=hid ((i.out.below (c:=World.drewN w _) ⟨rfl,rfl,rfl,Nat.le_refl _,fun _ _=>rfl⟩).trans hm);clear hm;go_wp2_with fail
    go_ret
    exact⟨rfl,a.out⟩
  ·have f:X.l[p.pos]?=none:=List.getElem?_eq_none (by omega)
   rw[qbp f];have m:(X.l.length:Int)≤(p.pos:Int):=by omega
   clear h d b hp f;go_enter Tryz.func108,Tryz.ntmps108
   go_wp2_with fail
   go_quiet (fail)
   go_wp2_with fail
   refine(y.out (World.drewN w _) ⟨rfl,rfl,rfl,Nat.le_refl _,fun _ _=>rfl⟩).mono ?_;rintro e M ⟨rfl,hm⟩;have a:=hid ((i.out.below (c:=World.drewN w _) ⟨rfl,rfl,rfl,Nat.le_refl _,fun _ _=>rfl⟩).trans hm);clear hm;go_wp2_with fail
   go_ret
   exact⟨rfl,a.out⟩
theorem qb8{l:List Tok}{i:Nat}{t:Tok}(h:l[i]?=some t):xQ l i=(t.kind==3 && t.k==0):=by unfold xQ;rw[h]
theorem JK{l:List Tok}{i:Nat}(h:l[i]?=none):xQ l i=false:=by unfold xQ;rw[h]
theorem qas(X:PCtx)(p:PS)(i:Nat)(w:World)(h:PSt w X p):
 Calls Tryz.prog 172 #[.pointer (some ⟨X.P,0,none⟩),.int .i64 i] w fun e w'=>e= .returned (.bool (xQ X.l i))∧w=w':=by
 obtain⟨ev,f,q⟩:=h.at_;have o:=f.c0;by_cases hp:i<X.l.length
 ·obtain⟨t,j⟩:=kp hp
  obtain⟨g,sa,sc,hA,hg,t0,u,v,x,y,z,A⟩:=h.tok j;have B:(0:Int)≤(i:Int):=by omega
  have r:(i:Int)<(X.l.length:Int):=by omega
  rw[hA]at o;rw[qb8 j];by_cases m:t.kind=3
  ·rw[m]at t0⊢
   obtain⟨n,hn⟩: ∃n,n=X.l.length:=⟨_,rfl⟩
   rw[←hn]at o r;obtain⟨c,a⟩: ∃c,c=t.k:=⟨_,rfl⟩
   rw[←a]at x⊢;clear h f q j hp hn u v y z A m a;go_enter Tryz.func172,Tryz.ntmps172
   go_wp2_with fail
   go_ret
   exact⟨rfl,rfl⟩
  ·have s:(t.kind==3)=false:=beq_eq_false_iff_ne.2 m
   rw[s];obtain⟨n,hn⟩: ∃n,n=X.l.length:=⟨_,rfl⟩
   rw[←hn]at o r;obtain⟨c,a⟩: ∃c,c=t.kind:=⟨_,rfl⟩
   rw[←a]at t0 s;obtain⟨D,d⟩: ∃c,c=t.k:=⟨_,rfl⟩
   rw[←d];clear h f q j hp hn u v x y z A m a d;go_enter Tryz.func172,Tryz.ntmps172
   go_wp2_with fail
   go_ret
   exact⟨rfl,rfl⟩
 ·have b:X.l[i]?=none:=List.getElem?_eq_none (by omega)
  have C: ¬(i:Int)<(X.l.length:Int):=by omega
  rw[JK b];clear h f q hp b;go_enter Tryz.func172,Tryz.ntmps172
  go_wp2_with fail
  go_ret
  exact⟨rfl,rfl⟩
def qQ:NL→Prop
 | .nil=>True
 | .cons op _ _ _ _ _ _ sub r=>(op=20∨op=26→sub.len≠0)∧qQ sub∧qQ r
theorem qG: ∀a b:NL,qQ a→qQ b→qQ (a.app b)
 | .nil,_,_,h=>h
 | .cons _ _ _ _ _ _ _ _ r,b,h,hb=>⟨h.1,h.2.1,qG r b h.2.2 hb⟩
theorem XO: ∀(i:Nat)(l:NL),qQ l→qQ (l.drop i)
 |0,l,h=>by rw[NL.drop];exact h
 |i+1,.nil,h=>h
 |i+1,.cons _ _ _ _ _ _ _ _ r,h=>XO i r h.2.2
theorem NdB.set8{w:World}{g:Nat}{a b c d e f h i:Value}(H:NdB w g a b c d e f h i)(a' b' j k e' l m i':Value):
 NdB ((((((((w.setCell ⟨g,0,none⟩ a').setCell ⟨g,1,none⟩ b').setCell ⟨g,2,none⟩ j).setCell ⟨g,3,none⟩ k).setCell ⟨g,4,none⟩ e').setCell ⟨g,5,none⟩ l).setCell ⟨g,6,none⟩ m).setCell ⟨g,7,none⟩ i') g a' b' j k e' l m i':=by
 unfold NdB at H⊢;simp[World.setCell,Array.getElem?_modify,H]
theorem JL{w w':World}{B:Nat}(h:Below B w w'){g:Nat}(hg:B≤g)(a b c d e f k m:Value):
 Below B w ((((((((w'.setCell ⟨g,0,none⟩ a).setCell ⟨g,1,none⟩ b).setCell ⟨g,2,none⟩ c).setCell ⟨g,3,none⟩ d).setCell ⟨g,4,none⟩ e).setCell ⟨g,5,none⟩ f).setCell ⟨g,6,none⟩ k).setCell ⟨g,7,none⟩ m):=
 Below.setCell (Below.setCell (Below.setCell (Below.setCell (Below.setCell (Below.setCell (Below.setCell (Below.setCell h hg _) hg _) hg _) hg _) hg _) hg _) hg _) hg _
def ZK(op:Int)(sub:NL):Bool:=if op=20 then jd sub else op==2||op==22
theorem xT(op ln:Int)(s:ByteArray)(k n:Int)(t:ByteArray)(sub:NL):jd (nd op ln s k n t sub)=ZK op sub:=rfl
theorem Kx(op ln:Int)(s:ByteArray)(k n:Int)(t:ByteArray)(va:Option Addr)(vc:Nat)(sub:NL)(sa:Option Addr)(sc:Nat)(w:World)(x:qQ (nd op ln s k n t sub))(hc:sub.len≤sc)(hr:RpN w (fun b=>b<w.heap.size) sub sa):
 Calls Tryz.prog 102 #[.agg (qN op ln s k n t va vc (.slice sa sub.len sc))] w fun e w'=>e= .returned (.bool (ZK op sub))∧Below w.heap.size w w':=by
 obtain⟨wa,h⟩: ∃wa,wa=w.alloc (.cells #[.int .i64 op,.int .i64 ln,.string s,.int .i64 k,.int .i64 n,.string t,.slice va 0 vc,.slice sa sub.len sc] 31):=⟨_,rfl⟩
 have v:Below w.heap.size w wa:=by rw[h];exact(Below.refl _ _).alloc (Nat.le_refl _) _
 have T:NdB wa w.heap.size (.int .i64 op) (.int .i64 ln) (.string s) (.int .i64 k) (.int .i64 n) (.string t) (.slice va 0 vc) (.slice sa sub.len sc):=by rw[h];exact NdB.new _ _ _ _ _ _ _ _ _
 obtain⟨r,l⟩: ∃r,r=ZK op sub:=⟨_,rfl⟩
 rw[←l];have Y:=hid l;have B:=hid v;have C:=hid T;have G:=hid h;have E:=hid hr;have u:=hid x;clear v T l h hr x;unfold qN;go_enter Tryz.func102,Tryz.ntmps102
 go_wp2_with fail
 rw[←G.out];go_loopg [] (sub.tot) (fun kk wr=> ∃(op' ln':Int)(s':ByteArray)(k' n':Int)(t':ByteArray)(v':VL)(y:Option Addr)(z:Nat)(sub':NL)(m:Option Addr)(q:Nat),sub'.tot≤kk∧sub'.len≤q∧Hid (NdB wr w.heap.size (.int .i64 op') (.int .i64 ln') (.string s') (.int .i64 k') (.int .i64 n') (.string t') (.slice y v'.len z) (.slice m sub'.len q))∧Hid (Below w.heap.size w wr)∧Hid (RpN w (fun b=>b<w.heap.size) sub' m)∧Hid ((op'=20∨op'=26→sub'.len≠0)∧qQ sub')∧Hid (r=ZK op' sub'))
 case atStart=>exact⟨op,ln,s,k,n,t,.nil,va,vc,sub,sa,sc,Nat.le_refl _,hc,C,B,E,⟨u.out.1,u.out.2.1⟩,Y⟩
 case round=>
  obtain⟨op',ln',s',k',n',t',v',y,z,sub',m,q,hk,hc',d,A,W,R,S⟩:=hrel;have c0:=d.out.c0;have c7:=d.out.c7;by_cases g:op'=20
  ·subst g
   have U:=R.out.1 (.inl rfl);obtain⟨b,o,op2,ln2,s2,k2,M,t2,v2,a,P,Q,N,O,hA,Z,hd,H,a1,a2,a3,a4,I,J,ab,hv,K,L,hs⟩:=W.out.nth (i:=0) (by omega);rw[Nat.zero_mul,Nat.add_zero]at H a1 a2 a3 a4 I J K;rw[NL.drop]at hd;have f:=hid (show r=ZK op2 a by rw[S.out,hd];rfl);have V:sub'.tot=1+a.tot+(sub'.drop (0+1)).tot:=by rw[hd];rfl
   have D:=hid (show(op2=20∨op2=26→a.len≠0)∧qQ a by have:=R.out.2;rw[hd]at this;exact⟨this.1,this.2.1⟩);have c: ∀j,wr.cell? ⟨b,j,none⟩=w.cell? ⟨b,j,none⟩:=fun j=>A.out.cell (p:=⟨b,j,none⟩) Z;have q0:=(c _).trans H;have q1:=(c _).trans a1;have q2:=(c _).trans a2;have q3:=(c _).trans a3;have q4:=(c _).trans a4;have q5:=(c _).trans I;have q6:=(c _).trans J;have q7:=(c _).trans K;have f0:=d.out.fr 0;have f1:=d.out.fr 1;have f2:=d.out.fr 2;have f3:=d.out.fr 3;have f4:=d.out.fr 4;have f5:=d.out.fr 5;have f6:=d.out.fr 6;have f7:=d.out.fr 7;have c1:=d.out.c1;have c2:=d.out.c2;have c3:=d.out.c3;have c4:=d.out.c4;have c5:=d.out.c5;have c6:=d.out.c6;have aa:(0:Int)<(sub'.len:Int):=by omega
   have F:=hid hs;subst hA;clear hd hv c H a1 a2 a3 a4 I J K hs;go_wp2_with fail
   go_roundg (a.tot)
   case measure=>omega
   case rel=>exact⟨op2,ln2,s2,k2,M,t2,v2,P,Q,a,N,O,Nat.le_refl _,L,hid (d.out.set8 _ _ _ _ _ _ _ _),hid (JL A.out (Nat.le_refl _) _ _ _ _ _ _ _ _),F,D,f⟩
  ·have n20:(op'==20)=false:=beq_eq_false_iff_ne.2 g
   have f:=hid (show r=(op'==2||op'==22)by rw[S.out];unfold ZK;rw[if_neg g]);clear g;by_cases h2:op'=2
   ·subst h2
    go_wp2_with fail
    go_ret
    exact⟨by rw[f.out];rfl,A.out⟩
   ·have M:(op'==2)=false:=beq_eq_false_iff_ne.2 h2
    rw[M,Bool.false_or]at f;clear h2;go_wp2_with fail
    go_ret
    exact⟨by rw[f.out];rfl,A.out⟩
theorem Jh{sub:NL}{i:Nat}{op ln:Int}{s:ByteArray}{k n:Int}{t:ByteArray}{v:VL}{sub':NL}(hi:i<sub.len)(hd:sub.drop i= .cons op ln s k n t v sub' (sub.drop (i+1))):
 jA (sub.drop i)=((if i+1=sub.len∧op=26 then sub'.op==2 else op==2) && jA (sub.drop (i+1))):=by
 rw[hd];have hl:=NL.len_drop (i+1) sub
 cases b:sub.drop (i+1)with
 |nil=>
  rw[b]at hl;simp only[NL.len]at hl;simp only[jA];by_cases a:op=26
  ·rw[if_pos a,if_pos ⟨by omega,a⟩]
  ·rw[if_neg a,if_neg (fun h=>a h.2)]
 |cons=>
  rw[b]at hl;simp only[NL.len]at hl;rw[if_neg (fun h=>by omega)];simp only[jA]
theorem qq{w:World}{a:Addr}{v:Value}(h:w.cell? a=some v)(o:Obj):(w.alloc o).cell? a=some v:=by
 have b:a.block<w.heap.size:=by
  unfold World.cell? at h;rcases Nat.lt_or_ge a.block w.heap.size with b|hge
  ·exact b
  ·rw[Array.getElem?_eq_none hge]at h;cases h
 exact(World.cell?_of_block (w:=w) (Below.heap_alloc _ _ _ b)).trans h
def TgOut(D:Nat→Prop)(r:Option (Int×NL))(e:Ending)(w':World):Prop:=match r with
 |none=>e= .returned (.tuple #[.int .i64 0,.slice none 0 0])
 |some (o,tl)=> ∃V,e= .returned (.tuple #[.int .i64 o,V])∧OwnN w' D V tl
theorem TgOut.none_(D:Nat→Prop)(w':World):TgOut D none (.returned (.tuple #[.int .i64 0,.slice none 0 0])) w':=rfl
theorem TgOut.some_{D:Nat→Prop}{o:Int}{tl:NL}{V:Value}{w':World}(h:OwnN w' D V tl):TgOut D (some (o,tl)) (.returned (.tuple #[.int .i64 o,V])) w':=⟨V,rfl,h⟩
theorem Q4(op ln:Int)(s:ByteArray)(k n:Int)(t:ByteArray)(va:Option Addr)(vc:Nat)(V:Value)(sub:NL)(D:Nat→Prop)(w:World)(x:qQ (nd op ln s k n t sub))(Q:OwnN w D V sub)(hD: ∀k,w.heap.size≤k→D k)(hlen:sub.len≤100000000000):
 Calls Tryz.prog 58 #[.agg (qN op ln s k n t va vc V)] w fun e w'=>TgOut D (zF (nd op ln s k n t sub)) e w'∧Below w.heap.size w w':=by
 obtain⟨sa,sc,rfl,hsc,hnone,y⟩:=Q.kids;obtain⟨wa,g⟩: ∃wa,wa=w.alloc (.cells #[.int .i64 op,.int .i64 ln,.string s,.int .i64 k,.int .i64 n,.string t,.slice va 0 vc,.slice sa sub.len sc] 31):=⟨_,rfl⟩
 have v:Below w.heap.size w wa:=by rw[g];exact(Below.refl _ _).alloc (Nat.le_refl _) _
 have u:NdB wa w.heap.size (.int .i64 op) (.int .i64 ln) (.string s) (.int .i64 k) (.int .i64 n) (.string t) (.slice va 0 vc) (.slice sa sub.len sc):=by rw[g];exact NdB.new _ _ _ _ _ _ _ _ _
 have U:=u.c0;have c1:=u.c1;have c2:=u.c2;have c3:=u.c3;have c4:=u.c4;have c5:=u.c5;have W:=u.c6;have P:=u.c7;have hz:wa.heap.size=w.heap.size+1:=by rw[g];simp
 have SC:=hid (Kx op ln s k n t va vc sub sa sc wa x hsc (y.keep (fun b hb=>v.block b hb.2) (fun b hb=>by omega)));have HRP:=hid y;have HV:=hid Q;have j:=hid v;have A:=hid u;have E:=hid g;have HOK:=hid x.2.1;rw[g]at U c1 c2 c3 c4 c5 W P;unfold qN at SC⊢
 cases hs:ZK op sub with
 |true=>
  rw[hs]at SC
  have B:zF (nd op ln s k n t sub)=some (27,nd op ln s k n t sub):=by
   unfold zF;rw[xT,hs];rfl
  rw[B];clear v u g x Q y hs B;go_enter Tryz.func58,Tryz.ntmps58
  go_wp2_with fail
  rw[←E.out];refine SC.out.mono ?_;rintro e w1 ⟨rfl,c⟩;have a:=A.out.below' c;have d0:=a.c0;have d1:=a.c1;have d2:=a.c2;have d3:=a.c3;have d4:=a.c4;have d5:=a.c5;have d6:=a.c6;have d7:=a.c7;have hb:=j.out.trans (qc c j.out.size);have z:=hid hb;have HO:=hid (OwnN.lit (cs:=qN op ln s k n t va vc (.slice sa sub.len sc)) ((HV.out.below hb).row1 op ln s k n t va vc) (hD _ hb.size) (by show 1≤_;decide));clear c a hb U c1 c2 c3 c4 c5 W P;go_wp2_with fail
  go_region
  go_wp2_with fail
  go_ret2
  exact⟨TgOut.some_ (HO.out.below (Below.drew (Below.refl _ _))),(z.out.alloc z.out.size _).drew⟩
 |false=>
  rw[hs]at SC;have O:=hid hs;by_cases K:op=25
  ·subst K
   by_cases G:sub.len=0
   ·have B:zF (nd 25 ln s k n t sub)=none:=by
     unfold zF;rw[xT,O.out];simp[nd,NL.op,NL.kids,G]
    rw[B,G];rw[G]at SC E A P;clear v u g x Q y hs B O G;go_enter Tryz.func58,Tryz.ntmps58
    go_wp2_with fail
    rw[←E.out];refine SC.out.mono ?_;rintro e w1 ⟨rfl,c⟩;have a:=A.out.below' c;have d0:=a.c0;have d7:=a.c7;have z:=hid (j.out.trans (qc c j.out.size));clear c a U c1 c2 c3 c4 c5 W P;go_wp2_with fail
    go_ret2
    exact⟨TgOut.none_ _ _,z.out⟩
   ·obtain⟨r,hr⟩: ∃r,r=jA sub:=⟨_,rfl⟩
    have HR:=hid hr
    have B:zF (nd 25 ln s k n t sub)=if r=true then some (28,sub)else none:=by
     unfold zF;rw[xT,O.out,hr];simp[nd,NL.op,NL.kids,G]
    rw[B];obtain⟨R,hR⟩: ∃R,R=(if r=true then some (28,sub)else none:Option (Int×NL)):=⟨_,rfl⟩
    rw[←hR];have M:=hid hR;have hlp: ¬(sub.len:Int)=0:=by omega
    have hlb:((sub.len:Int)==0)=false:=beq_eq_false_iff_ne.2 hlp;have hwrap:IntKind.i64.wrap ((sub.len:Int)-1)=(sub.len:Int)-1:=IntWalk.i64_in _ ⟨by omega,by omega⟩;clear v u g x Q y hs B O hr hR;go_enter Tryz.func58,Tryz.ntmps58
    go_wp2_with fail
    rw[←E.out];refine SC.out.mono ?_;rintro e w1 ⟨rfl,c⟩;have a:=A.out.below' c;have d0:=a.c0;have d7:=a.c7;have HN1:=hid a;have z:=hid (j.out.trans (qc c j.out.size));have hz1:=c.size;clear c a U c1 c2 c3 c4 c5 W P;go_wp2_with fail
    go_loopg [22] sub.len (fun S iv wr=> ∃i:Nat,iv= .int .i64 i∧i+S=sub.len∧Hid (Below w1.heap.size w1 wr)∧Hid (r=jA (sub.drop i)))
    case atStart=>exact⟨0,rfl,by omega,Below.refl _ _,by rw[NL.drop];exact HR.out⟩
    case round=>
     obtain⟨i,rfl,hk,l,T⟩:=hrel;have Y:=HN1.out.below' l.out;have e0:=Y.c0;have e7:=Y.c7;by_cases hi:i<sub.len
     ·have H:=z.out.trans (qc l.out (by have:=z.out.size;omega))
      obtain⟨b,o,op2,ln2,s2,k2,n2,t2,v2,I,va2,vc2,sa2,sc2,hA,hS,hd,a0,a1,a2,a3,a4,a5,a6,hvc,hv,a7,hsc2,hs2⟩:=(HRP.out.keep (w':=wr) (S':=fun b=>b<w.heap.size) (fun b hb=>H.block b hb.2) (fun b hb=>hb.2)).nth hi;have m:=Jh hi hd;have m:=Jh hi hd;obtain⟨S,rfl⟩: ∃S,gk=S+1:=⟨gk-1,by omega⟩
      have b0:(0:Int)≤(i:Int):=by omega
      have b1:(i:Int)<(sub.len:Int):=by omega
      have E7:=fun o=>qq e7 o;have hwz:=H.size;have J:=hid H;subst hA;by_cases d:i+1=sub.len∧op2=26
      ·obtain⟨d,h26⟩:=d
       have f:((i:Int)==(sub.len:Int)-1)=true:=beq_iff_eq.2 (by omega);subst h26;rw[if_pos ⟨d,rfl⟩]at m;have hok2:I.len≠0:=by have:=XO i sub HOK.out;rw[hd]at this;exact this.1 (.inr rfl)
       obtain⟨b',o',op3,ln3,s3,k3,n3,t3,v3,sub3,va3,vc3,sa3,sc3,hA3,hS3,N,x0,x1,x2,x3,x4,x5,x6,hvc3,hv3,x7,hsc3,hs3⟩:=hs2.nth (i:=0) (by omega);rw[Nat.zero_mul,Nat.add_zero]at x0 x1 x2 x3 x4 x5 x6 x7;rw[NL.drop]at N;have Z:I.op=op3:=by rw[N];rfl
       rw[Z]at m;subst hA3;have hlp2:(0:Int)<(I.len:Int):=by omega
       have X0:=fun o=>qq x0 o;have X1:=fun o=>qq x1 o;have X2:=fun o=>qq x2 o;have X3:=fun o=>qq x3 o;have X4:=fun o=>qq x4 o;have X5:=fun o=>qq x5 o;have X6:=fun o=>qq x6 o;have X7:=fun o=>qq x7 o;have p:=hid (T.out.trans m);have L:=hid (fun o=>l.out.alloc l.out.size o);have F:=hid (fun o=>J.out.alloc J.out.size o);clear hd N m hv hs2 hv3 hs3 T x0 x1 x2 x3 x4 x5 x6 x7 H;by_cases q:op3=2
       ·subst q
        go_wp2_with fail
        go_roundg S
        case measure=>omega
        case rel=>exact⟨i+1,by go_num,by omega,hid (L.out _),hid (p.out.trans (by rfl))⟩
       ·have m2:(op3==2)=false:=beq_eq_false_iff_ne.2 q
        have m3:(op3 !=2)=true:=by rw[bne,m2];rfl
        rw[m2]at p;have C:=hid (show R=none by rw[M.out,show r=false from p.out];rfl);clear q;go_wp2_with fail
        go_ret2
        rw[C.out];exact⟨TgOut.none_ _ _,F.out _⟩
      ·rw[if_neg d]at m
       have f:((i:Int)==(sub.len:Int)-1)=false∨(((i:Int)==(sub.len:Int)-1)=true∧(op2==26)=false):=by
        by_cases hl:i+1=sub.len
        ·exact .inr ⟨beq_iff_eq.2 (by omega),beq_eq_false_iff_ne.2 (fun h=>d ⟨hl,h⟩)⟩
        ·exact .inl (beq_eq_false_iff_ne.2 (by omega))
       have p:=hid (T.out.trans m);have L:=hid (fun o=>l.out.alloc l.out.size o);have F:=hid (fun o=>J.out.alloc J.out.size o);clear hd m hv hs2 T H d;rcases f with f|⟨f,b26⟩
       all_goals
        by_cases q:op2=2
        ·subst q
         go_wp2_with fail
         go_roundg S
         case measure=>omega
         case rel=>exact⟨i+1,by go_num,by omega,hid (L.out _),hid (p.out.trans (by rfl))⟩
        ·have m2:(op2==2)=false:=beq_eq_false_iff_ne.2 q
         have m3:(op2 !=2)=true:=by rw[bne,m2];rfl
         rw[m2]at p;have C:=hid (show R=none by rw[M.out,show r=false from p.out];rfl);clear q;go_wp2_with fail
         go_ret2
         rw[C.out];exact⟨TgOut.none_ _ _,F.out _⟩
     ·obtain rfl:i=sub.len:=by omega
      have hrt:r=true:=by rw[T.out,NL.drop_len];rfl
      have C:=hid (show R=some (28,sub)by rw[M.out,hrt];rfl);have HOF:=hid ((HV.out.below z.out).below l.out);have HBF:=hid (z.out.trans (qc l.out (by have:=z.out.size;omega)));go_wp2_with fail
      go_quiet (fail)
      go_wp2_with fail
      go_ret2
      rw[C.out];exact⟨TgOut.some_ (HOF.out.below ⟨rfl,rfl,rfl,Nat.le_refl _,fun _ _=>rfl⟩),HBF.out.trans ⟨rfl,rfl,rfl,Nat.le_refl _,fun _ _=>rfl⟩⟩
  ·have B:zF (nd op ln s k n t sub)=none:=by
    unfold zF;rw[xT,O.out];simp[nd,NL.op,K]
   rw[B];have n25:(op==25)=false:=beq_eq_false_iff_ne.2 K;have m25:(op !=25)=true:=by rw[bne,n25];rfl
   clear v u g x Q y hs B O K;go_enter Tryz.func58,Tryz.ntmps58
   go_wp2_with fail
   rw[←E.out];refine SC.out.mono ?_;rintro e w1 ⟨rfl,c⟩;have a:=A.out.below' c;have d0:=a.c0;have d7:=a.c7;have z:=hid (j.out.trans (qc c j.out.size));clear c a U c1 c2 c3 c4 c5 W P;go_wp2_with fail
   go_ret2
   exact⟨TgOut.none_ _ _,z.out⟩
def MaxAt(w:World):Prop:= ∃m:Int,w.cell? ⟨18,0,none⟩=some (.int .i64 m)
theorem MaxAt.below{w w':World}{B:Nat}(h:MaxAt w)(hb:Below B w w')(a:24≤B):MaxAt w':=by
 obtain⟨m,hm⟩:=h;exact⟨m,(World.cell?_of_block (w:=w) (hb.block _ (Nat.lt_of_lt_of_le (by decide) a))).trans hm⟩
structure TxAt (w:World):Prop where
 tab:TabIs Tryz.prog w "internal/strconv.uint64pow10" .u64 pow10Tab
 room:24<w.heap.size
 mx:MaxAt w
theorem TxAt.below{w w':World}{B:Nat}(h:TxAt w)(hb:Below B w w')(a:w.heap.size≤B):TxAt w':=
 ⟨Joins.tab_stays (g:=20) rfl h.tab hb a,by have:=hb.size;have:=h.room;omega,h.mx.below hb (by have:=h.room;omega)⟩
theorem qbt{W W':World}{a e b n:Nat}{v:Value}{xs:List Value}(h:W.ownsRow a e b v n xs)(hb:Below W.heap.size W W'):W'.ownsRow a e b v n xs:=by
 refine⟨h.1,?_⟩;rcases h.2 with h0|⟨g,cap,d,hv,f,i,r⟩
 ·exact .inl h0
 ·have c:g<W.heap.size:=by
   rcases Nat.lt_or_ge g W.heap.size with c|hge
   ·exact c
   ·rw[Array.getElem?_eq_none hge]at i;cases i
  exact .inr ⟨g,cap,d,hv,f,(hb.block g c).trans i,r⟩
end Go.Proofs.YtggngahmafbihaaGreatDoor
