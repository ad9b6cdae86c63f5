/- Contracts, and the plain mathematics beneath. -/
import Derived.Test.YtggngahmafbihaaGreatDoorPerAA
set_option linter.unusedVariables false
set_option linter.unusedSimpArgs false
namespace Go.Proofs.YtggngahmafbihaaGreatDoor
open Go.RowKit Go.Lib
structure PS where
 pos:Nat
 deep:Int
 err:Option (Option Int)
def nd(op ln:Int)(s:ByteArray)(k n:Int)(t:ByteArray)(sub:NL):NL:= .cons op ln s k n t .nil sub .nil
def jw:NL:=nd 0 0 ⟨#[]⟩ 0 0 ⟨#[]⟩ .nil
def ndL(op ln:Int)(sub:NL):NL:=nd op ln ⟨#[]⟩ 0 0 ⟨#[]⟩ sub
def NL.op:NL→Int
 | .nil=>0
 | .cons op _ _ _ _ _ _ _ _=>op
def NL.line:NL→Int
 | .nil=>0
 | .cons _ ln _ _ _ _ _ _ _=>ln
def NL.kids:NL→NL
 | .nil=> .nil
 | .cons _ _ _ _ _ _ _ sub _=>sub
def qd(l:List Tok)(p:PS):Int:=match l[p.pos]? with
 |some t=>t.line
 |none=>match l.getLast? with
  |some t=>t.line
  |none=>1
def zd(l:List Tok)(p:PS):PS:=if p.err.isSome then p else{p with err:=some (some (qd l p))}
def qj(l:List Tok)(p:PS)(s:List UInt8):Bool:=p.err.isNone && match l[p.pos]? with
 |some t=>(t.kind==4||t.kind==2) && t.s.data.toList==s
 |none=>false
def qb(p:PS):PS:={p with pos:=p.pos+1}
def qf(l:List Tok)(p:PS)(s:List UInt8):PS:=if qj l p s then qb p else zd l p
def qE(l:List Tok)(p:PS):ByteArray×PS:=match p.err,l[p.pos]? with
 |none,some t=>if t.kind==1 then(t.s,qb p)else(⟨#[]⟩,zd l p)
 |_,_=>(⟨#[]⟩,zd l p)
def qh(p:PS):PS:=if 160<p.deep+1∧p.err.isNone then{p with deep:=p.deep+1,err:=some none}else{p with deep:=p.deep+1}
def qu(p:PS):PS:={p with deep:=p.deep-1}
def jd:NL→Bool
 | .nil=>false
 | .cons op _ _ _ _ _ _ sub _=>if op=20 then jd sub else op==2||op==22
def jA:NL→Bool
 | .nil=>true
 | .cons op _ _ _ _ _ _ sub r=>(match r with| .nil=>(if op=26 then sub.op==2 else op==2)|_=>op==2) && jA r
def zF(n:NL):Option (Int×NL):=if jd n then some (27,n)else if n.op=25∧n.kids.len≠0∧jA n.kids=true then some (28,n.kids)else none
def xu:Nat→List (List UInt8×Int)
 |0=> [([124,124],18)]
 |1=> [([38,38],17)]
 |2=> [([61,61],10),([33,61],11),([60],12),([60,61],13),([62],14),([62,61],15),([105,110],16)]
 |3=> [([43],5),([45],6)]
 |4=> [([42],7),([47],8),([37],9)]
 |_=> []
def xQ(l:List Tok)(i:Nat):Bool:=match l[i]? with
 |some t=>t.kind==3 && t.k==0
 |none=>false
inductive Req where
 |expr|cond|two (k:Nat)|twoL (k:Nat) (n:NL)|one|part|behind (n:NL)|items (e:List UInt8)|row (acc:NL)|codes|codesL (out:NL) (acc:NL)|first|within (e:List UInt8)|caught (line:Int)
 |block (ends:List (List UInt8))|blockL (ends:List (List UInt8)) (acc:NL)|head|stmt|ifsL (acc:NL)|tryL (acc:NL)
def kv:List UInt8:= [101,110,100,119,104,105,108,101]
def kR:List UInt8:= [101,110,100,102,111,114,107]
def zM:List UInt8:= [101,110,100,102,111,114]
def zI:List UInt8:= [101,110,100,105,102]
def jQ:List UInt8:= [101,108,115,101,105,102]
def xq:List UInt8:= [101,108,115,101]
def zO:List UInt8:= [101,120,99,101,112,116]
def z8:List UInt8:= [102,105,110,97,108,108,121]
def zl:List UInt8:= [101,110,100,116,114,121]
def qa(l:List Tok):Nat→Req→PS→Option (NL×PS)
 |0,_,_=>none
 |f+1,.expr,p=>
  (qa l f .cond p).bind fun(n,p)=>
  if !qj l p [61]then some (n,p)
  else match zF n with
   |none=>some (n,zd l p)
   |some (op,tl)=>
    let p:=qh (qb p)
    if p.err.isNone then
     (qa l f .expr p).bind fun(x,p)=>
     some (ndL op n.line (tl.app x),qu p)
    else some (ndL op n.line tl,qu p)
 |f+1,.cond,p=>
  (qa l f (.two 0) p).bind fun(n,p)=>
  if !qj l p [63]then some (n,p)
  else
   let p:=qh (qb p)
   if p.err.isNone then
    (qa l f .expr p).bind fun(x,p)=>
    let p:=qf l p [124]
    (qa l f .cond p).bind fun(y,p)=>
    some (ndL 19 n.line ((n.app x).app y),qu p)
   else some (ndL 19 n.line n,qu p)
 |f+1,.two k,p=>
  if k≥5 then qa l f .one p
  else
   (qa l f (.two (k+1)) p).bind fun(n,p)=>
   qa l f (.twoL k n) p
 |f+1,.twoL k n,p=>match(xu k).find? (fun x=>qj l p x.1)with
  |none=>some (n,p)
  |some (_,op)=>
   (qa l f (.two (k+1)) (qb p)).bind fun(y,p)=>
   qa l f (.twoL k (ndL op n.line (n.app y))) p
 |f+1,.one,p=>
  let line:=qd l p
  if qj l p [45] && xQ l (p.pos+1)then
   match l[p.pos+1]? with
   |some t=>qa l f (.behind (nd 1 line ⟨#[]⟩ t.k (RowKit.wrap64 (-t.n)) t.t .nil)) (qb (qb p))
   |none=>some (jw,p)
  else if qj l p [45]then
   let p:=qh (qb p)
   if p.err.isNone then
    (qa l f .one p).bind fun(x,p)=>
    some (ndL 3 line x,qu p)
   else some (ndL 3 line .nil,qu p)
  else if qj l p [33]then
   let p:=qh (qb p)
   if p.err.isNone then
    (qa l f .one p).bind fun(x,p)=>
    some (ndL 4 line x,qu p)
   else some (ndL 4 line .nil,qu p)
  else
   (qa l f .first p).bind fun(n,p)=>
   qa l f (.behind n) p
 |f+1,.part,p=>
  if qj l p [40]then qa l f (.within [41]) (qb p)
  else
   let line:=qd l p
   let(s,p):=qE l p
   some (nd 1 line ⟨#[]⟩ 2 0 s .nil,p)
 |f+1,.behind n,p=>
  if p.err.isSome then some (n,p)
  else if qj l p [91]then
   let p:=qh (qb p)
   if p.err.isNone then
    (qa l f .expr p).bind fun(x,p)=>
    if qj l p [46,46]then
     (qa l f .expr (qb p)).bind fun(y,p)=>
     qa l f (.behind (ndL 21 n.line ((n.app x).app y))) (qf l (qu p) [93])
    else qa l f (.behind (ndL 20 n.line (n.app x))) (qf l (qu p) [93])
   else qa l f (.behind (ndL 20 n.line n)) (qf l (qu p) [93])
  else if qj l p [46]then
   (qa l f .part (qb p)).bind fun(x,p)=>
   qa l f (.behind (ndL 22 n.line (n.app x))) p
  else if qj l p [58]then
   (qa l f .part (qb p)).bind fun(x,p)=>
   let p:=qf l p [40]
   (qa l f (.items [41]) p).bind fun(y,p)=>
   qa l f (.behind (ndL 23 n.line ((n.app x).app y))) p
  else some (n,p)
 |f+1,.items e,p=>
  let p:=qh p
  if p.err.isNone && !qj l p e then
   (qa l f (.row .nil) p).bind fun(x,p)=>
   some (x,qf l (qu p) e)
  else some (.nil,qf l (qu p) e)
 |f+1,.row acc,p=>
  if p.err.isSome then some (acc,p)
  else
   let line:=qd l p
   if qj l p [64]then
    (qa l f .expr (qb p)).bind fun(x,p)=>
    let acc:=acc.app (ndL 26 line x)
    if qj l p [44]then qa l f (.row acc) (qb p)else some (acc,p)
   else
    (qa l f .expr p).bind fun(x,p)=>
    let acc:=acc.app x
    if qj l p [44]then qa l f (.row acc) (qb p)else some (acc,p)
 |f+1,.codes,p=>
  let line:=qd l p
  if qj l p [97,110,121]then some (ndL 25 line .nil,qb p)
  else
   (qa l f (.codesL .nil .nil) p).bind fun(x,p)=>
   some (ndL 25 line x,p)
 |f+1,.codesL o acc,p=>
  if p.err.isSome then some (acc,p)
  else
   (qa l f .expr p).bind fun(x,p)=>
   let acc:=acc.app x
   if qj l p [44]then qa l f (.codesL o acc) (qb p)else some (acc,p)
 |f+1,.first,p=>
  let line:=qd l p
  match p.err,l[p.pos]? with
  |none,some t=>
   if t.kind==3 then some (nd 1 line ⟨#[]⟩ t.k t.n t.t .nil,qb p)
   else if t.kind==1 then
    let p:=qb p
    if qj l p [40]then
     (qa l f (.items [41]) (qb p)).bind fun(x,p)=>
     some (nd 24 line t.s 0 0 ⟨#[]⟩ x,p)
    else some (nd 2 line t.s 0 0 ⟨#[]⟩ .nil,p)
   else if qj l p [123]then
    (qa l f (.items [125]) (qb p)).bind fun(x,p)=>
    some (ndL 25 line x,p)
   else if qj l p [40]then qa l f (.within [41]) (qb p)
   else if qj l p [36]then
    let p:=qb p
    let a:=qd l p
    let(s,p):=qE l p
    some (ndL 22 line ((nd 1 line ⟨#[]⟩ 1 0 ⟨#[]⟩ .nil).app (nd 1 a ⟨#[]⟩ 2 0 s .nil)),p)
   else if qj l p [96]then qa l f (.caught line) (qb p)
   else some (jw,zd l p)
  |_,_=>some (jw,zd l p)
 |f+1,.within e,p=>
  let p:=qh p
  if p.err.isNone then
   (qa l f .expr p).bind fun(x,p)=>
   some (x,qf l (qu p) e)
  else some (jw,qf l (qu p) e)
 |f+1,.caught line,p=>
  let p:=qh p
  if p.err.isNone then
   (qa l f .expr p).bind fun(x,p)=>
   let p:=qf l p [33]
   (qa l f .codes p).bind fun(y,p)=>
   if qj l p [61,62]then
    (qa l f .expr (qb p)).bind fun(z,p)=>
    some (ndL 29 line ((x.app y).app z),qf l (qu p) [39])
   else some (ndL 29 line (x.app y),qf l (qu p) [39])
  else some (ndL 29 line .nil,qf l (qu p) [39])
 |f+1,.block ends,p=>
  let line:=qd l p
  let p:=qh p
  if p.err.isNone then
   (qa l f (.blockL ends .nil) p).bind fun(x,p)=>
   some (ndL 52 line x,qu p)
  else some (ndL 52 line .nil,qu p)
 |f+1,.blockL ends acc,p=>
  if p.err.isSome||ends.any (fun e=>qj l p e)then some (acc,p)
  else if l.length≤p.pos then some (acc,zd l p)
  else
   (qa l f .stmt p).bind fun(x,p)=>
   qa l f (.blockL ends (acc.app x)) p
 |f+1,.head,p=>qa l f (.within [41]) (qf l p [40])
 |f+1,.stmt,p=>
  let line:=qd l p
  if qj l p [98,114,101,97,107]then some (ndL 45 line .nil,qf l (qb p) [59])
  else if qj l p [99,111,110,116,105,110,117,101]then some (ndL 46 line .nil,qf l (qb p) [59])
  else if qj l p [114,101,116,117,114,110]then
   let p:=qb p
   if qj l p [59]then some (ndL 47 line .nil,qf l p [59])
   else
    (qa l f .expr p).bind fun(x,p)=>
    some (ndL 47 line x,qf l p [59])
  else if qj l p [105,102]then
   (qa l f (.ifsL .nil) (qb p)).bind fun(x,p)=>
   if qj l p xq then
    (qa l f (.block [zI]) (qb p)).bind fun(y,p)=>
    some (ndL 41 line (x.app y),qf l p zI)
   else some (ndL 41 line x,qf l p zI)
  else if qj l p [102,111,114]then
   let(s,p):=qE l (qb p)
   let p:=qf l p [105,110]
   if qj l p [91]then
    let p:=qh (qb p)
    if p.err.isNone then
     (qa l f .expr p).bind fun(x,p)=>
     let p:=qf l p [46,46]
     (qa l f .expr p).bind fun(y,p)=>
     (qa l f (.block [zM]) (qf l (qu p) [93])).bind fun(z,p)=>
     some (nd 43 line s 0 0 ⟨#[]⟩ ((x.app y).app z),qf l p zM)
    else
     (qa l f (.block [zM]) (qf l (qu p) [93])).bind fun(z,p)=>
     some (nd 43 line s 0 0 ⟨#[]⟩ z,qf l p zM)
   else
    (qa l f .head p).bind fun(x,p)=>
    (qa l f (.block [zM]) p).bind fun(z,p)=>
    some (nd 42 line s 0 0 ⟨#[]⟩ (x.app z),qf l p zM)
  else if qj l p [119,104,105,108,101]then
   (qa l f .head (qb p)).bind fun(x,p)=>
   (qa l f (.block [kv]) p).bind fun(z,p)=>
   some (ndL 44 line (x.app z),qf l p kv)
  else if qj l p [102,111,114,107]then
   (qa l f .head (qb p)).bind fun(x,p)=>
   (qa l f (.block [kR]) p).bind fun(z,p)=>
   some (ndL 48 line (x.app z),qf l p kR)
  else if qj l p [116,114,121]then
   (qa l f (.block [zO,z8]) (qb p)).bind fun(x,p)=>
   if qj l p z8 then
    (qa l f (.block [zl]) (qb p)).bind fun(y,p)=>
    some (ndL 51 line (x.app y),qf l p zl)
   else
    (qa l f (.tryL .nil) p).bind fun(y,p)=>
    some (ndL 49 line (x.app y),qf l p zl)
  else
   (qa l f .expr p).bind fun(x,p)=>
   some (ndL 40 x.line x,qf l p [59])
 |f+1,.ifsL acc,p=>
  (qa l f .head p).bind fun(x,p)=>
  (qa l f (.block [jQ,xq,zI]) p).bind fun(y,p)=>
  let acc:=(acc.app x).app y
  if qj l p jQ then qa l f (.ifsL acc) (qb p)else some (acc,p)
 |f+1,.tryL acc,p=>
  if p.err.isSome|| !qj l p zO then some (acc,p)
  else
   let line:=qd l p
   let p:=qb p
   let(s,p):=if qj l p [40]then(⟨#[]⟩,p)else qE l p
   let p:=qf l p [40]
   let p:=qh p
   if p.err.isNone then
    (qa l f .codes p).bind fun(x,p)=>
    (qa l f (.block [zO,zl]) (qf l (qu p) [41])).bind fun(y,p)=>
    qa l f (.tryL (acc.app (nd 50 line s 0 0 ⟨#[]⟩ (x.app y)))) p
   else
    (qa l f (.block [zO,zl]) (qf l (qu p) [41])).bind fun(y,p)=>
    qa l f (.tryL (acc.app (nd 50 line s 0 0 ⟨#[]⟩ y))) p
def zH(l:List Tok):Nat→NL→PS→Option (NL×PS)
 |0,_,_=>none
 |f+1,acc,p=>
  if p.err.isSome||l.length≤p.pos then some (acc,p)
  else
   (qa l (f+1) .stmt p).bind fun(x,p)=>
   zH l f (acc.app x) p
end Go.Proofs.YtggngahmafbihaaGreatDoor
