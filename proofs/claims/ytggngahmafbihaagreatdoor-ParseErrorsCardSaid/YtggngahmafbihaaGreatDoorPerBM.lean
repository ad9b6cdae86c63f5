/- Contracts, and the plain mathematics beneath. -/
import Derived.Test.YtggngahmafbihaaGreatDoorPerBC
import Derived.Test.YtggngahmafbihaaGreatDoorPerAO
import Derived.Test.YtggngahmafbihaaGreatDoorPerBB
import Derived.Test.YtggngahmafbihaaGreatDoorPerAA
set_option linter.unusedVariables false
set_option linter.unusedSimpArgs false
set_option maxRecDepth 100000
set_option maxHeartbeats 2000000
namespace Go.Proofs.YtggngahmafbihaaGreatDoor
open Go.RowKit Go.Lib
theorem LxRes.of_drewN{ea:Nat→Addr}{R n:Nat}{s:ByteArray}{i:Nat}{line:Int}{l:List Tok}{r:WR}{w:World}{e:Ending}{w':World}(h:LxRes ea R s i line l r (w.drewN n) e w'):LxRes ea R s i line l r w e w':=
 ⟨(zc (Below.refl _ _) n).trans h.1,h.2⟩
theorem LxRes.ret{ea:Nat→Addr}{R:Nat}{s:ByteArray}{i:Nat}{line:Int}{l:List Tok}{r:WR}{w:World}{e:Ending}{w':World}(h:LxRes ea R s i line l r w e w'): ∃x,e= .returned x:=by
 obtain⟨_,h⟩:=h
 cases r with
 |bad c=>obtain⟨A,_,_,rfl⟩:=h;exact⟨_,rfl⟩
 |word n t=>exact⟨_,h.1⟩
theorem KJ{c d:UInt8}{k:Nat}(hd:d.toNat=k):(((c.toNat:Nat):Int)==(k:Int))=(c==d):=by
 rw[Bool.eq_iff_iff,beq_iff_eq,beq_iff_eq]
 constructor
 ·intro h;exact UInt8.toNat_inj.1 (by omega)
 ·rintro rfl;omega
theorem qfo{c d:UInt8}{k:Nat}(hd:d.toNat=k)(h:c=d):(((c.toNat:Nat):Int)==(k:Int))=true:=by rw[KJ hd,h];simp
theorem ZU{c d:UInt8}{k:Nat}(hd:d.toNat=k)(h:c≠d):(((c.toNat:Nat):Int)==(k:Int))=false:=by rw[KJ hd];simpa using h
theorem qff(R:Nat)(s:ByteArray)(i:Nat)(line:Int)(l:List Tok)(ea:Nat→Addr)(w:World)(h:LxSt w R s i line l)(f:LxEnv w ea)(hi:i<s.size)(hs:s.size≤1000000000)(z:24≤R)(hl: -1000000000≤line)(t:line≤1000000000000)(a:pk s i=10):
 Calls Tryz.prog 41 #[.pointer (some ⟨R,0,none⟩)] w fun e w'=>e= .returned .nilIface∧Below R w w'∧LxSt w' R s (i+1) (line+1) l:=by
 have u:=h.lt;obtain⟨v,L,ha,_⟩:=id h;have j:=ha.c0;have m:=ha.c1;have n:=ha.c2;have o:=ha.fr 1;have p:=ha.fr 2;have g:=hid h;have y:=hid f;have b:=qK s i hi;have r:(i:Int)<(s.size:Int):=by omega
 have q:(i:Int)≤1000000000:=by omega
 have x:(((s[i]'hi).toNat:Int)==10)=true:=by rw[←b];exact qfo (d:=10) (k:=10) rfl a
 clear h f ha b a;go_enter Tryz.func41,Tryz.ntmps41
 go_wp2_with fail
 go_quiet (fail)
 go_wp2_with fail
 go_ret
 have c:=((g.out.newline (line+1)).move (i+1) (by omega) (by omega))
 rw[show((i+1:Nat):Int)=(i:Int)+1 from by omega]at c;refine⟨rfl,?_,LxSt.drewN c _⟩;refine Below.setCell (Below.setCell ?_ ?_ _) ?_ _
 ·exact zc (Below.refl _ _) _
 ·exact Nat.le_refl _
 ·exact Nat.le_refl _
theorem qfg(R:Nat)(s:ByteArray)(i:Nat)(line:Int)(l:List Tok)(ea:Nat→Addr)(w:World)(h:LxSt w R s i line l)(d:LxEnv w ea)(hi:i<s.size)(hs:s.size≤1000000000)(x:24≤R)(a:pk s i=32):
 Calls Tryz.prog 41 #[.pointer (some ⟨R,0,none⟩)] w fun e w'=>e= .returned .nilIface∧Below R w w'∧LxSt w' R s (i+1) line l:=by
 have q:=h.lt;obtain⟨v,L,ha,_⟩:=id h;have g:=ha.c0;have j:=ha.c1;have k:=ha.c2;have m:=ha.fr 1;have n:=ha.fr 2;have f:=hid h;have u:=hid d;have b:=qK s i hi;have p:(i:Int)<(s.size:Int):=by omega
 have o:(i:Int)≤1000000000:=by omega
 have r:(((s[i]'hi).toNat:Int)==10)=false:=by rw[←b,a];rfl
 have t:(((s[i]'hi).toNat:Int)==32)=true:=by rw[←b,a];rfl
 clear h d ha b a;go_enter Tryz.func41,Tryz.ntmps41
 go_wp2_with fail
 go_quiet (fail)
 go_wp2_with fail
 go_ret
 have c:=(f.out.move (i+1) (by omega) (by omega))
 rw[show((i+1:Nat):Int)=(i:Int)+1 from by omega]at c;refine⟨rfl,?_,LxSt.drewN c _⟩;refine Below.setCell ?_ ?_ _
 ·exact zc (Below.refl _ _) _
 ·exact Nat.le_refl _
theorem qgE(R:Nat)(s:ByteArray)(i:Nat)(line:Int)(l:List Tok)(ea:Nat→Addr)(w:World)(h:LxSt w R s i line l)(B:LxEnv w ea)(hi:i<s.size)(hs:s.size≤1000000000)(z:24≤R)(o:pk s i≠10)(p:pk s i≠32):
 Calls Tryz.prog 41 #[.pointer (some ⟨R,0,none⟩)] w (LxRes ea R s i line l (zb s i line) w):=by
 have S:=h.lt;obtain⟨v,L,ha,_⟩:=id h;have J:=ha.c0;have K:=ha.c1;have M:=ha.c2;have N:=ha.fr 1;have O:=ha.fr 2;have D:=hid h;have C:=hid B;have b:=qK s i hi;have Q:(i:Int)<(s.size:Int):=by omega
 have P:(i:Int)≤1000000000:=by omega
 have T:(((s[i]'hi).toNat:Int)==10)=false:=by rw[←b];exact ZU (d:=10) (k:=10) rfl o
 have U:(((s[i]'hi).toNat:Int)==32)=false:=by rw[←b];exact ZU (d:=32) (k:=32) rfl p
 have SC:=fun W=>kD (pk s i) W;have u:=fun W=>QG (pk s i) W;have y:=fun W=>xL (pk s i) W
 cases c:zk (pk s i)with
 |true=>
  rw[c,b]at SC;have A:=hid (Jk c:zb s i line=Zl s i line);have f:=hid SC;have G:=hid c;clear c;clear h B ha b o p SC u y;go_enter Tryz.func41,Tryz.ntmps41
  go_wp2_with fail
  go_quiet (fail)
  go_wp2_with fail
  refine(f.out _).mono ?_;rintro e t ⟨rfl,rfl⟩;go_wp2_with fail
  refine(qfL R s i line l ea _ (D.out.drewN _) (C.out.below (zc (Below.refl _ _) _) z) hi hs z G.out).mono ?_;rintro e w2 a;obtain⟨x,rfl⟩:=LxRes.ret a;go_wp2_with fail
  go_ret
  rw[A.out];exact LxRes.of_drewN a
 |false=>
  rw[c,b]at SC
  cases g:qt (pk s i)with
  |true=>
   rw[g,b]at u;have A:=hid (J6 c g:zb s i line=Jx s i line);have f:=hid SC;have j:=hid u;clear h B ha b o p SC u y c g;go_enter Tryz.func41,Tryz.ntmps41
   go_wp2_with fail
   go_quiet (fail)
   go_wp2_with fail
   refine(f.out _).mono ?_;rintro e t ⟨rfl,rfl⟩;go_wp2_with fail
   refine(j.out _).mono ?_;rintro e t ⟨rfl,rfl⟩;go_wp2_with fail
   refine(qbf R s i line l ea _ (D.out.drewN _) (C.out.below (zc (Below.refl _ _) _) z) hi hs z).mono ?_;rintro e w2 a;obtain⟨x,rfl⟩:=LxRes.ret a;go_wp2_with fail
   go_ret
   rw[A.out];exact LxRes.of_drewN a
  |false=>
   rw[g,b]at u
   cases m:zz (pk s i)with
   |true=>
    rw[m,b]at y;have A:=hid (Jj c g m:zb s i line=Ze s i line);have f:=hid SC;have j:=hid u;have n:=hid y;have F:=hid m;clear m c g;clear h B ha b o p SC u y;go_enter Tryz.func41,Tryz.ntmps41
    go_wp2_with fail
    go_quiet (fail)
    go_wp2_with fail
    refine(f.out _).mono ?_;rintro e t ⟨rfl,rfl⟩;go_wp2_with fail
    refine(j.out _).mono ?_;rintro e t ⟨rfl,rfl⟩;go_wp2_with fail
    refine(n.out _).mono ?_;rintro e t ⟨rfl,rfl⟩;go_wp2_with fail
    refine(qel R s i line l ea _ (D.out.drewN _) (C.out.below (zc (Below.refl _ _) _) z) hi hs z F.out).mono ?_;rintro e w2 a;obtain⟨x,rfl⟩:=LxRes.ret a;go_wp2_with fail
    go_ret
    rw[A.out];exact LxRes.of_drewN a
   |false=>
    rw[m,b]at y;by_cases r:pk s i=35
    ·have I:(((s[i]'hi).toNat:Int)==35)=true:=by rw[←b,r];rfl
     have A:=hid (J7 r:zb s i line=xo s i line);have f:=hid SC;have j:=hid u;have n:=hid y;clear h B ha b o p SC u y c g m r;go_enter Tryz.func41,Tryz.ntmps41
     go_wp2_with fail
     go_quiet (fail)
     go_wp2_with fail
     refine(f.out _).mono ?_;rintro e t ⟨rfl,rfl⟩;go_wp2_with fail
     refine(j.out _).mono ?_;rintro e t ⟨rfl,rfl⟩;go_wp2_with fail
     refine(n.out _).mono ?_;rintro e t ⟨rfl,rfl⟩;go_wp2_with fail
     refine(qcz R s i line l ea _ (D.out.drewN _) (C.out.below (zc (Below.refl _ _) _) z) hi hs z).mono ?_;rintro e w2 a;obtain⟨x,rfl⟩:=LxRes.ret a;go_wp2_with fail
     go_ret
     rw[A.out];exact LxRes.of_drewN a
    ·have I:(((s[i]'hi).toNat:Int)==35)=false:=by rw[←b];exact ZU (d:=35) (k:=35) rfl r
     by_cases q:pk s i=34
     ·have H:(((s[i]'hi).toNat:Int)==34)=true:=by rw[←b,q];rfl
      have A:=hid (J8 q:zb s i line=JG s i line);have f:=hid SC;have j:=hid u;have n:=hid y;have E:=hid q;clear q r c g m;clear h B ha b o p SC u y;go_enter Tryz.func41,Tryz.ntmps41
      go_wp2_with fail
      go_quiet (fail)
      go_wp2_with fail
      refine(f.out _).mono ?_;rintro e t ⟨rfl,rfl⟩;go_wp2_with fail
      refine(j.out _).mono ?_;rintro e t ⟨rfl,rfl⟩;go_wp2_with fail
      refine(n.out _).mono ?_;rintro e t ⟨rfl,rfl⟩;go_wp2_with fail
      refine(qhc R s i line l ea _ (D.out.drewN _) (C.out.below (zc (Below.refl _ _) _) z) hi hs z E.out).mono ?_;rintro e w2 a;obtain⟨x,rfl⟩:=LxRes.ret a;go_wp2_with fail
      go_ret
      rw[A.out];exact LxRes.of_drewN a
     ·have H:(((s[i]'hi).toNat:Int)==34)=false:=by rw[←b];exact ZU (d:=34) (k:=34) rfl q
      have A:=hid (Jl c g m r q:zb s i line=Zr s i line);have f:=hid SC;have j:=hid u;have n:=hid y;clear h B ha b o p SC u y c g m r q;go_enter Tryz.func41,Tryz.ntmps41
      go_wp2_with fail
      go_quiet (fail)
      go_wp2_with fail
      refine(f.out _).mono ?_;rintro e t ⟨rfl,rfl⟩;go_wp2_with fail
      refine(j.out _).mono ?_;rintro e t ⟨rfl,rfl⟩;go_wp2_with fail
      refine(n.out _).mono ?_;rintro e t ⟨rfl,rfl⟩;go_wp2_with fail
      refine(qgy R s i line l ea _ (D.out.drewN _) (C.out.below (zc (Below.refl _ _) _) z) hi hs z).mono ?_;rintro e w2 a;obtain⟨x,rfl⟩:=LxRes.ret a;go_wp2_with fail
      go_ret
      rw[A.out];exact LxRes.of_drewN a
theorem qcp{p:Prop}[Decidable p]{a b r:WR}(h:(if p then a else b)=r):a=r∨b=r:=by
 split at h
 ·exact .inl h
 ·exact .inr h
theorem qb0{s:ByteArray}{i n:Nat}{line:Int}{t:Tok}(hi:i<s.size)(h:zb s i line= .word n t):1≤n:=by
 by_cases h1:zk (pk s i)=true
 ·rw[Jk h1]at h
  unfold Zl at h;simp only at h;split at h
  ·cases h
  ·injection h with h _;subst h;exact Zq s _ i hi (by simp[h1])
 have h1:zk (pk s i)=false:=by simpa using h1
 by_cases h2:qt (pk s i)=true
 ·rw[J6 h1 h2]at h
  unfold Jx at h;split at h
  ·cases h
  ·rename_i v m hd;injection h with h _;subst h;exact(Qr hd (by omega)).1
 have h2:qt (pk s i)=false:=by simpa using h2
 by_cases h3:zz (pk s i)=true
 ·rw[Jj h1 h2 h3]at h
  unfold Ze at h;simp only at h;split at h
  ·cases h
  ·injection h with h _;subst h;exact Zq s _ i hi (by simp[h3])
 have h3:zz (pk s i)=false:=by simpa using h3
 by_cases h4:pk s i=35
 ·rw[J7 h4]at h
  unfold xo at h;simp only at h;split at h
  ·cases h
  ·rename_i v m hd
   split at h
   ·cases h
   ·rcases qcp h with h|h
    ·cases h
    ·injection h with h _
     split at h<;>omega
 by_cases h5:pk s i=34
 ·rw[J8 h5]at h
  unfold JG at h
  cases a:zA s (s.size+1) (i+1)with
  |none=>rw[a]at h;cases h
  |some j=>
   rw[a]at h;have:=(QV s _ _ _ a).1;unfold Xh Jd at h;simp only at h
   cases b:xH (s.extract i j)with
   |inl e=>rw[b]at h;cases h
   |inr x=>rw[b]at h;simp only at h;injection h with h _;omega
 ·rw[Jl h1 h2 h3 h4 h5]at h
  unfold Zr at h;simp only at h;split at h
  ·cases h
  ·injection h with h _;omega
theorem LxSt.new(w:World)(s:ByteArray):LxSt (w.alloc (.cells #[.string s,.int .i64 0,.int .i64 1,.slice none 0 0] 83)) w.heap.size s 0 1 []:=
 ⟨.slice none 0 0,[],heap_alloc_new w _,World.ownsRow_nil _ _ _ _,rfl,Nat.le_refl _,Nat.zero_le _⟩
def qfh(ea:Nat→Addr)(r:(Nat×Int) ⊕ List Tok)(w:World)(e:Ending)(w':World):Prop:=
 Below w.heap.size w w'∧match r with
 | .inl (c,line)=> ∃A,w.heap.size≤A∧w'.heap[A]?=some (.cells #[.int .i64 line,.iface 270 (.pointer (some (ea c)))] 73 (0,0))∧e= .returned (.tuple #[.slice none 0 0,.iface 70 (.pointer (some ⟨A,0,none⟩))])
 | .inr l=> ∃(v:Value)(L:List Qd),e= .returned (.tuple #[v,.nilIface])∧w'.ownsRow w.heap.size 55 7 v L.length (zW L)∧L.map (·.1)=l
theorem XR{w:World}{b b' e a n:Nat}{v:Value}{xs:List Value}(h:w.ownsRow b e a v n xs)(hb:b'≤b):w.ownsRow b' e a v n xs:=by
 obtain⟨h1,h2⟩:=h;refine⟨h1,?_⟩;rcases h2 with h2|⟨g,cap,c,hv,hg,r⟩
 ·exact .inl h2
 ·exact .inr ⟨g,cap,c,hv,Nat.le_trans hb hg,r⟩
theorem qb4{s:ByteArray}{f i:Nat}{line:Int}{out:List Tok}(h:i<s.size)(a:pk s i=10):zT s (f+1) i line out=zT s f (i+1) (line+1) out:=by
 rw[zT,if_pos h,if_pos a]
theorem qb5{s:ByteArray}{f i:Nat}{line:Int}{out:List Tok}(h:i<s.size)(a:pk s i=32):zT s (f+1) i line out=zT s f (i+1) line out:=by
 rw[zT,if_pos h,if_neg (by rw[a];decide),if_pos a]
theorem qdI(s:ByteArray)(ea:Nat→Addr)(w:World)(M:LxEnv w ea)(hb:s.size≤32768):
 Calls Tryz.prog 20 #[.string s] w (qfh ea (xP s) w):=by
 obtain⟨r,hr⟩: ∃r,r=xP s:=⟨_,rfl⟩
 have N:=M.err.room;obtain⟨wa,z⟩: ∃wa,wa=w.alloc (.cells #[.string s,.int .i64 0,.int .i64 1,.slice none 0 0] 83):=⟨_,rfl⟩
 have F:LxSt wa w.heap.size s 0 1 []:=by rw[z];exact LxSt.new w s
 have E:Below w.heap.size w wa:=by rw[z];exact(Below.refl _ _).alloc (Nat.le_refl _) _
 have I:=hid F;have G:=hid E;have J:=hid z;have S:=hid hr;have P:=hid M;have hd:(s.size:Int)≤32768:=by omega
 rw[←hr];clear M F E z hr;go_enter Tryz.func20,Tryz.ntmps20
 go_wp2_with fail
 rw[←J.out];go_loopg [] (s.size+1) (fun k wr=> ∃(i:Nat)(line:Int)(l:List Tok),LxSt wr w.heap.size s i line l∧Below w.heap.size w wr∧s.size+1≤i+k∧1≤line∧line≤1+i∧Hid (zT s k i line l=r))
 case atStart=>exact⟨0,1,[],I.out,G.out,by omega,by omega,by omega,S.out.symm⟩
 case round=>
  obtain⟨i,line,l,hs1,o,hk,Z,aa,x⟩:=hrel;obtain⟨v,L,j,b,d,W,Y⟩:=id hs1;have c0:=j.c0;have c1:=j.c1;have c3:=j.c3;have C:=hid hs1;have p:=hid o;have B:=hid (P.out.below o (by omega));by_cases g:i<s.size
  ·obtain⟨k,rfl⟩: ∃k,gk=k+1:=⟨gk-1,by omega⟩
   have ab:(i:Int)<(s.size:Int):=by omega
   by_cases f:pk s i=10
   ·have y:=hid ((qb4 g f).symm.trans x.out)
    have u:=hid (qff w.heap.size s i line l ea wr C.out B.out g (by omega) (by omega) (by omega) (by omega) f);clear x f hs1 o j b d;go_wp2_with fail
    refine u.out.mono ?_;rintro e w2 ⟨rfl,a,hs2⟩;have q:=hid hs2;have m:=hid a;clear hs2 a;go_wp2_with fail
    go_roundg k
    case measure=>omega
    case rel=>exact⟨i+1,line+1,l,q.out,p.out.trans m.out,by omega,by omega,by omega,y.out⟩
   by_cases h:pk s i=32
   ·have y:=hid ((qb5 g h).symm.trans x.out)
    have u:=hid (qfg w.heap.size s i line l ea wr C.out B.out g (by omega) (by omega) h);clear x f h hs1 o j b d;go_wp2_with fail
    refine u.out.mono ?_;rintro e w2 ⟨rfl,a,hs2⟩;have q:=hid hs2;have m:=hid a;clear hs2 a;go_wp2_with fail
    go_roundg k
    case measure=>omega
    case rel=>exact⟨i+1,line,l,q.out,p.out.trans m.out,by omega,by omega,by omega,y.out⟩
   ·have u:=qgE w.heap.size s i line l ea wr C.out B.out g (by omega) (by omega) f h
    cases D:zb s i line with
    |bad c=>
     have y:=hid ((qaX g f h D).symm.trans x.out);rw[D]at u;have K:=hid u;clear x f h hs1 o j b d u D;go_wp2_with fail
     refine K.out.mono ?_;rintro e w2 ⟨a,A,hA,O,rfl⟩;have T:=hid hA;have U:=hid O;have m:=hid a;clear hA O a;go_wp2_with fail
     go_returns
     rw[←y.out];exact⟨p.out.trans m.out,A,T.out,U.out,rfl⟩
    |word n t=>
     have y:=hid ((ZR g f h D).symm.trans x.out);have H:=hid (qb0 g D);rw[D]at u;have K:=hid u;clear x f h hs1 o j b d u D;go_wp2_with fail
     refine K.out.mono ?_;rintro e w2 ⟨a,rfl,hs2⟩;have q:=hid hs2;have m:=hid a;clear hs2 a;have V:1≤n:=H.out;go_wp2_with fail
     go_roundg k
     case measure=>omega
     case rel=>exact⟨i+n,line,l++ [t],q.out,p.out.trans m.out,by omega,by omega,by omega,y.out⟩
  ·have X:(s.size:Int)≤(i:Int):=by omega
   have y:=hid ((JI g gk).symm.trans x.out);have R:=hid b;have Q:=hid d;obtain⟨VA,VC,rfl⟩:=xg b;clear x hs1 o j b d;go_wp2_with fail
   go_returns
   rw[←y.out];exact⟨p.out,_,L,rfl,XR R.out (by omega),Q.out⟩
theorem ZA: ∀(L:List Qd)(j:Nat)(p:Qd),L[j]?=some p→ ∀k,k<7→(zW L)[7*j+k]?=(tk7 p)[k]?
 | [],_,_,h,_,_=>by simp at h
 |q::L,0,p,h,k,hk=>by
  simp at h;subst h;rw[zW,Nat.mul_zero,Nat.zero_add,List.getElem?_append_left (by show k<7;omega)]
 |q::L,j+1,p,h,k,hk=>by
  rw[List.getElem?_cons_succ]at h;rw[zW,List.getElem?_append_right (by show 7≤_;omega),show 7*(j+1)+k-(tk7 q).length=7*j+k from by show 7*(j+1)+k-7=_;omega];exact ZA L j p h k hk
theorem qcD{w:World}{a g n cap:Nat}{L:List Qd}(h:w.ownsRow a 55 7 (.slice (some ⟨g,0,none⟩) n cap) n (zW L))(j:Nat)(p:Qd)(hp:L[j]?=some p):TkIn w g (7*j) p.1 p.2.1 p.2.2:=by
 have hc: ∀k u,k<7→(tk7 p)[k]?=some u→w.cell? ⟨g,7*j+k,none⟩=some u:=by
  intro k u hk c;have:=h.cells (g:=g) rfl (7*j+k) u (by rw[ZA L j p hp k hk];exact c);have b:(⟨g,0,none⟩:Addr).add (7*j+k)=⟨g,7*j+k,none⟩:=by unfold Addr.add;split<;>simp_all
  rw[b]at this;exact this
 exact⟨hc 0 _ (by decide) rfl,hc 1 _ (by decide) rfl,hc 2 _ (by decide) rfl,hc 3 _ (by decide) rfl,hc 4 _ (by decide) rfl,hc 5 _ (by decide) rfl,hc 6 _ (by decide) rfl⟩
def qd0(l:List Tok)(w:World)(e:Ending)(w':World):Prop:=
 ∃g cap,e= .returned (.tuple #[.slice (some ⟨g,0,none⟩) l.length cap,.nilIface])∧w.heap.size≤g∧g<w'.heap.size∧Below w.heap.size w w'∧l.length≤cap∧ ∀j t,l[j]?=some t→ ∃sa sc,TkIn w' g (7*j) t sa sc
theorem Xn{s:ByteArray}{l:List Tok}(ea:Nat→Addr)(w:World)(o:LxEnv w ea)(hb:s.size≤32768)(h:xP s= .inr l)(hl:0<l.length):
 Calls Tryz.prog 20 #[.string s] w (qd0 l w):=by
 have:=qdI s ea w o hb;rw[h]at this;refine this.mono ?_;rintro e w' ⟨f,v,L,rfl,a,hm⟩;have d:L.length=l.length:=by rw[←hm,List.length_map]
 have h2:=a.2;obtain⟨g,cap,rfl,hg,i⟩:=a.form (by omega)
 have c:l.length≤cap:=by
  rcases h2 with⟨h,_⟩|⟨q,m,n,h,_,_,hc,_⟩
  ·cases h
  ·injection h with _ _ h;omega
 refine⟨g,cap,by rw[d],hg,i,f,c,fun j t b=> ?_⟩;rw[←hm,List.getElem?_map]at b
 cases k:L[j]? with
 |none=>rw[k]at b;cases b
 |some p=>
  rw[k]at b;simp at b;rw[←b];exact⟨_,_,qcD a j p k⟩
theorem qb7{s:ByteArray}(ea:Nat→Addr)(w:World)(c:LxEnv w ea)(hb:s.size≤32768)(h:xP s= .inr []):
 Calls Tryz.prog 20 #[.string s] w fun e w'=>(∃(A:Option Addr)(C:Nat),e= .returned (.tuple #[.slice A 0 C,.nilIface]))∧Below w.heap.size w w':=by
 have:=qdI s ea w c hb;rw[h]at this;refine this.mono ?_;rintro e w' ⟨b,v,L,rfl,a,hm⟩;obtain rfl:L= []:=by simpa using hm
 obtain⟨A,C,rfl⟩:=xg a;exact⟨⟨A,C,rfl⟩,b⟩
def qhr(a b:Tok):Bool:=decide (a.kind=b.kind∧a.line=b.line∧a.s=b.s∧a.k=b.k∧a.n=b.n∧a.t=b.t)
def Xi:List Tok→List Tok→Bool
 | [],[]=>true
 |a::l,b::m=>qhr a b && Xi l m
 |_,_=>false
theorem Kk: ∀(l m:List Tok),Xi l m=true→l=m
 | [],[],_=>rfl
 |a::l,b::m,h=>by
  rw[Xi,Bool.and_eq_true]at h;obtain⟨h1,h2⟩:=h;obtain⟨a1,a2,a3,a4,c,d⟩:=of_decide_eq_true h1
  cases a;cases b;simp only at a1 a2 a3 a4 c d;rw[Kk l m h2,a1,a2,a3,a4,c,d]
 | [],_::_,h=>by cases h
 |_::_,[],h=>by cases h
end Go.Proofs.YtggngahmafbihaaGreatDoor
