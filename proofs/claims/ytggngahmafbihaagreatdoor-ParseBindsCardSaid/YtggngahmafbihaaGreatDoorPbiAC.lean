/- Contracts of the functions that the statement reaches, and the plain mathematics beneath: several texts joined. -/
import Derived.Test.YtggngahmafbihaaGreatDoorPbiAA
namespace Go.Proofs.YtggngahmafbihaaGreatDoor

/-- Where the parser stands, how deep, and what is amiss: with a line, or too deep. -/
structure PS where
  pos : Nat
  deep : Int
  err : Option (Option Int)
def nd (op ln : Int) (s : ByteArray) (k n : Int) (t : ByteArray) (sub : NL) : NL := .cons op ln s k n t .nil sub .nil
def nd0 : NL := nd 0 0 ⟨#[]⟩ 0 0 ⟨#[]⟩ .nil
def ndL (op ln : Int) (sub : NL) : NL := nd op ln ⟨#[]⟩ 0 0 ⟨#[]⟩ sub
def NL.op : NL → Int
  | .nil => 0
  | .cons op _ _ _ _ _ _ _ _ => op
def NL.line : NL → Int
  | .nil => 0
  | .cons _ ln _ _ _ _ _ _ _ => ln
def NL.kids : NL → NL
  | .nil => .nil
  | .cons _ _ _ _ _ _ _ sub _ => sub
def lineS (l : List Tok) (p : PS) : Int := match l[p.pos]? with
  | some t => t.line
  | none => match l.getLast? with
    | some t => t.line
    | none => 1
def failS (l : List Tok) (p : PS) : PS := if p.err.isSome then p else { p with err := some (some (lineS l p)) }
def isS (l : List Tok) (p : PS) (s : List UInt8) : Bool := p.err.isNone && match l[p.pos]? with
  | some t => (t.kind == 4 || t.kind == 2) && t.s.data.toList == s
  | none => false
def nextS (p : PS) : PS := { p with pos := p.pos + 1 }
def mustS (l : List Tok) (p : PS) (s : List UInt8) : PS := if isS l p s then nextS p else failS l p
def nameS (l : List Tok) (p : PS) : ByteArray × PS := match p.err, l[p.pos]? with
  | none, some t => if t.kind == 1 then (t.s, nextS p) else (⟨#[]⟩, failS l p)
  | _, _ => (⟨#[]⟩, failS l p)
def downS (p : PS) : PS := if 160 < p.deep + 1 ∧ p.err.isNone then { p with deep := p.deep + 1, err := some none } else { p with deep := p.deep + 1 }
def upS (p : PS) : PS := { p with deep := p.deep - 1 }
def settableS : NL → Bool
  | .nil => false
  | .cons op _ _ _ _ _ _ sub _ => if op = 20 then settableS sub else op == 2 || op == 22
def varsS : NL → Bool
  | .nil => true
  | .cons op _ _ _ _ _ _ sub r => (match r with | .nil => (if op = 26 then sub.op == 2 else op == 2) | _ => op == 2) && varsS r
/-- What stands left of a sign to set. -/
def targetS (n : NL) : Option (Int × NL) := if settableS n then some (27, n) else if n.op = 25 ∧ n.kids.len ≠ 0 ∧ varsS n.kids = true then some (28, n.kids) else none
def levelS : Nat → List (List UInt8 × Int)
  | 0 => [([124, 124], 18)]
  | 1 => [([38, 38], 17)]
  | 2 => [([61, 61], 10), ([33, 61], 11), ([60], 12), ([60, 61], 13), ([62], 14), ([62, 61], 15), ([105, 110], 16)]
  | 3 => [([43], 5), ([45], 6)]
  | 4 => [([42], 7), ([47], 8), ([37], 9)]
  | _ => []
def atInt (l : List Tok) (i : Nat) : Bool := match l[i]? with
  | some t => t.kind == 3 && t.k == 0
  | none => false

/-- What is read. -/
inductive Req where
  | expr | cond | two (k : Nat) | twoL (k : Nat) (n : NL) | one | part | behind (n : NL) | items (e : List UInt8) | row (acc : NL) | codes | codesL (out : NL) (acc : NL) | first | within (e : List UInt8) | caught (line : Int)
  | block (ends : List (List UInt8)) | blockL (ends : List (List UInt8)) (acc : NL) | head | stmt | ifsL (acc : NL) | tryL (acc : NL)

def K_endwhile : List UInt8 := [101, 110, 100, 119, 104, 105, 108, 101]
def K_endfork : List UInt8 := [101, 110, 100, 102, 111, 114, 107]
def K_endfor : List UInt8 := [101, 110, 100, 102, 111, 114]
def K_endif : List UInt8 := [101, 110, 100, 105, 102]
def K_elseif : List UInt8 := [101, 108, 115, 101, 105, 102]
def K_else : List UInt8 := [101, 108, 115, 101]
def K_except : List UInt8 := [101, 120, 99, 101, 112, 116]
def K_finally : List UInt8 := [102, 105, 110, 97, 108, 108, 121]
def K_endtry : List UInt8 := [101, 110, 100, 116, 114, 121]

def prsR (l : List Tok) : Nat → Req → PS → Option (NL × PS)
  | 0, _, _ => none
  | f + 1, .expr, p =>
    (prsR l f .cond p).bind fun (n, p) =>
    if !isS l p [61] then some (n, p)
    else match targetS n with
      | none => some (n, failS l p)
      | some (op, tl) =>
        let p := downS (nextS p)
        if p.err.isNone then
          (prsR l f .expr p).bind fun (x, p) =>
          some (ndL op n.line (tl.app x), upS p)
        else some (ndL op n.line tl, upS p)
  | f + 1, .cond, p =>
    (prsR l f (.two 0) p).bind fun (n, p) =>
    if !isS l p [63] then some (n, p)
    else
      let p := downS (nextS p)
      if p.err.isNone then
        (prsR l f .expr p).bind fun (x, p) =>
        let p := mustS l p [124]
        (prsR l f .cond p).bind fun (y, p) =>
        some (ndL 19 n.line ((n.app x).app y), upS p)
      else some (ndL 19 n.line n, upS p)
  | f + 1, .two k, p =>
    if k ≥ 5 then prsR l f .one p
    else
      (prsR l f (.two (k + 1)) p).bind fun (n, p) =>
      prsR l f (.twoL k n) p
  | f + 1, .twoL k n, p => match (levelS k).find? (fun x => isS l p x.1) with
    | none => some (n, p)
    | some (_, op) =>
      (prsR l f (.two (k + 1)) (nextS p)).bind fun (y, p) =>
      prsR l f (.twoL k (ndL op n.line (n.app y))) p
  | f + 1, .one, p =>
    let line := lineS l p
    if isS l p [45] && atInt l (p.pos + 1) then
      match l[p.pos + 1]? with
      | some t => prsR l f (.behind (nd 1 line ⟨#[]⟩ t.k (RowKit.wrap64 (-t.n)) t.t .nil)) (nextS (nextS p))
      | none => some (nd0, p)
    else if isS l p [45] then
      let p := downS (nextS p)
      if p.err.isNone then
        (prsR l f .one p).bind fun (x, p) =>
        some (ndL 3 line x, upS p)
      else some (ndL 3 line .nil, upS p)
    else if isS l p [33] then
      let p := downS (nextS p)
      if p.err.isNone then
        (prsR l f .one p).bind fun (x, p) =>
        some (ndL 4 line x, upS p)
      else some (ndL 4 line .nil, upS p)
    else
      (prsR l f .first p).bind fun (n, p) =>
      prsR l f (.behind n) p
  | f + 1, .part, p =>
    if isS l p [40] then prsR l f (.within [41]) (nextS p)
    else
      let line := lineS l p
      let (s, p) := nameS l p
      some (nd 1 line ⟨#[]⟩ 2 0 s .nil, p)
  | f + 1, .behind n, p =>
    if p.err.isSome then some (n, p)
    else if isS l p [91] then
      let p := downS (nextS p)
      if p.err.isNone then
        (prsR l f .expr p).bind fun (x, p) =>
        if isS l p [46, 46] then
          (prsR l f .expr (nextS p)).bind fun (y, p) =>
          prsR l f (.behind (ndL 21 n.line ((n.app x).app y))) (mustS l (upS p) [93])
        else prsR l f (.behind (ndL 20 n.line (n.app x))) (mustS l (upS p) [93])
      else prsR l f (.behind (ndL 20 n.line n)) (mustS l (upS p) [93])
    else if isS l p [46] then
      (prsR l f .part (nextS p)).bind fun (x, p) =>
      prsR l f (.behind (ndL 22 n.line (n.app x))) p
    else if isS l p [58] then
      (prsR l f .part (nextS p)).bind fun (x, p) =>
      let p := mustS l p [40]
      (prsR l f (.items [41]) p).bind fun (y, p) =>
      prsR l f (.behind (ndL 23 n.line ((n.app x).app y))) p
    else some (n, p)
  | f + 1, .items e, p =>
    let p := downS p
    if p.err.isNone && !isS l p e then
      (prsR l f (.row .nil) p).bind fun (x, p) =>
      some (x, mustS l (upS p) e)
    else some (.nil, mustS l (upS p) e)
  | f + 1, .row acc, p =>
    if p.err.isSome then some (acc, p)
    else
      let line := lineS l p
      if isS l p [64] then
        (prsR l f .expr (nextS p)).bind fun (x, p) =>
        let acc := acc.app (ndL 26 line x)
        if isS l p [44] then prsR l f (.row acc) (nextS p) else some (acc, p)
      else
        (prsR l f .expr p).bind fun (x, p) =>
        let acc := acc.app x
        if isS l p [44] then prsR l f (.row acc) (nextS p) else some (acc, p)
  | f + 1, .codes, p =>
    let line := lineS l p
    if isS l p [97, 110, 121] then some (ndL 25 line .nil, nextS p)
    else
      (prsR l f (.codesL .nil .nil) p).bind fun (x, p) =>
      some (ndL 25 line x, p)
  | f + 1, .codesL o acc, p =>
    if p.err.isSome then some (acc, p)
    else
      (prsR l f .expr p).bind fun (x, p) =>
      let acc := acc.app x
      if isS l p [44] then prsR l f (.codesL o acc) (nextS p) else some (acc, p)
  | f + 1, .first, p =>
    let line := lineS l p
    match p.err, l[p.pos]? with
    | none, some t =>
      if t.kind == 3 then some (nd 1 line ⟨#[]⟩ t.k t.n t.t .nil, nextS p)
      else if t.kind == 1 then
        let p := nextS p
        if isS l p [40] then
          (prsR l f (.items [41]) (nextS p)).bind fun (x, p) =>
          some (nd 24 line t.s 0 0 ⟨#[]⟩ x, p)
        else some (nd 2 line t.s 0 0 ⟨#[]⟩ .nil, p)
      else if isS l p [123] then
        (prsR l f (.items [125]) (nextS p)).bind fun (x, p) =>
        some (ndL 25 line x, p)
      else if isS l p [40] then prsR l f (.within [41]) (nextS p)
      else if isS l p [36] then
        let p := nextS p
        let at_ := lineS l p
        let (s, p) := nameS l p
        some (ndL 22 line ((nd 1 line ⟨#[]⟩ 1 0 ⟨#[]⟩ .nil).app (nd 1 at_ ⟨#[]⟩ 2 0 s .nil)), p)
      else if isS l p [96] then prsR l f (.caught line) (nextS p)
      else some (nd0, failS l p)
    | _, _ => some (nd0, failS l p)
  | f + 1, .within e, p =>
    let p := downS p
    if p.err.isNone then
      (prsR l f .expr p).bind fun (x, p) =>
      some (x, mustS l (upS p) e)
    else some (nd0, mustS l (upS p) e)
  | f + 1, .caught line, p =>
    let p := downS p
    if p.err.isNone then
      (prsR l f .expr p).bind fun (x, p) =>
      let p := mustS l p [33]
      (prsR l f .codes p).bind fun (y, p) =>
      if isS l p [61, 62] then
        (prsR l f .expr (nextS p)).bind fun (z, p) =>
        some (ndL 29 line ((x.app y).app z), mustS l (upS p) [39])
      else some (ndL 29 line (x.app y), mustS l (upS p) [39])
    else some (ndL 29 line .nil, mustS l (upS p) [39])
  | f + 1, .block ends, p =>
    let line := lineS l p
    let p := downS p
    if p.err.isNone then
      (prsR l f (.blockL ends .nil) p).bind fun (x, p) =>
      some (ndL 52 line x, upS p)
    else some (ndL 52 line .nil, upS p)
  | f + 1, .blockL ends acc, p =>
    if p.err.isSome || ends.any (fun e => isS l p e) then some (acc, p)
    else if l.length ≤ p.pos then some (acc, failS l p)
    else
      (prsR l f .stmt p).bind fun (x, p) =>
      prsR l f (.blockL ends (acc.app x)) p
  | f + 1, .head, p => prsR l f (.within [41]) (mustS l p [40])
  | f + 1, .stmt, p =>
    let line := lineS l p
    if isS l p [98, 114, 101, 97, 107] then some (ndL 45 line .nil, mustS l (nextS p) [59])
    else if isS l p [99, 111, 110, 116, 105, 110, 117, 101] then some (ndL 46 line .nil, mustS l (nextS p) [59])
    else if isS l p [114, 101, 116, 117, 114, 110] then
      let p := nextS p
      if isS l p [59] then some (ndL 47 line .nil, mustS l p [59])
      else
        (prsR l f .expr p).bind fun (x, p) =>
        some (ndL 47 line x, mustS l p [59])
    else if isS l p [105, 102] then
      (prsR l f (.ifsL .nil) (nextS p)).bind fun (x, p) =>
      if isS l p K_else then
        (prsR l f (.block [K_endif]) (nextS p)).bind fun (y, p) =>
        some (ndL 41 line (x.app y), mustS l p K_endif)
      else some (ndL 41 line x, mustS l p K_endif)
    else if isS l p [102, 111, 114] then
      let (s, p) := nameS l (nextS p)
      let p := mustS l p [105, 110]
      if isS l p [91] then
        let p := downS (nextS p)
        if p.err.isNone then
          (prsR l f .expr p).bind fun (x, p) =>
          let p := mustS l p [46, 46]
          (prsR l f .expr p).bind fun (y, p) =>
          (prsR l f (.block [K_endfor]) (mustS l (upS p) [93])).bind fun (z, p) =>
          some (nd 43 line s 0 0 ⟨#[]⟩ ((x.app y).app z), mustS l p K_endfor)
        else
          (prsR l f (.block [K_endfor]) (mustS l (upS p) [93])).bind fun (z, p) =>
          some (nd 43 line s 0 0 ⟨#[]⟩ z, mustS l p K_endfor)
      else
        (prsR l f .head p).bind fun (x, p) =>
        (prsR l f (.block [K_endfor]) p).bind fun (z, p) =>
        some (nd 42 line s 0 0 ⟨#[]⟩ (x.app z), mustS l p K_endfor)
    else if isS l p [119, 104, 105, 108, 101] then
      (prsR l f .head (nextS p)).bind fun (x, p) =>
      (prsR l f (.block [K_endwhile]) p).bind fun (z, p) =>
      some (ndL 44 line (x.app z), mustS l p K_endwhile)
    else if isS l p [102, 111, 114, 107] then
      (prsR l f .head (nextS p)).bind fun (x, p) =>
      (prsR l f (.block [K_endfork]) p).bind fun (z, p) =>
      some (ndL 48 line (x.app z), mustS l p K_endfork)
    else if isS l p [116, 114, 121] then
      (prsR l f (.block [K_except, K_finally]) (nextS p)).bind fun (x, p) =>
      if isS l p K_finally then
        (prsR l f (.block [K_endtry]) (nextS p)).bind fun (y, p) =>
        some (ndL 51 line (x.app y), mustS l p K_endtry)
      else
        (prsR l f (.tryL .nil) p).bind fun (y, p) =>
        some (ndL 49 line (x.app y), mustS l p K_endtry)
    else
      (prsR l f .expr p).bind fun (x, p) =>
      some (ndL 40 x.line x, mustS l p [59])
  | f + 1, .ifsL acc, p =>
    (prsR l f .head p).bind fun (x, p) =>
    (prsR l f (.block [K_elseif, K_else, K_endif]) p).bind fun (y, p) =>
    let acc := (acc.app x).app y
    if isS l p K_elseif then prsR l f (.ifsL acc) (nextS p) else some (acc, p)
  | f + 1, .tryL acc, p =>
    if p.err.isSome || !isS l p K_except then some (acc, p)
    else
      let line := lineS l p
      let p := nextS p
      let (s, p) := if isS l p [40] then (⟨#[]⟩, p) else nameS l p
      let p := mustS l p [40]
      let p := downS p
      if p.err.isNone then
        (prsR l f .codes p).bind fun (x, p) =>
        (prsR l f (.block [K_except, K_endtry]) (mustS l (upS p) [41])).bind fun (y, p) =>
        prsR l f (.tryL (acc.app (nd 50 line s 0 0 ⟨#[]⟩ (x.app y)))) p
      else
        (prsR l f (.block [K_except, K_endtry]) (mustS l (upS p) [41])).bind fun (y, p) =>
        prsR l f (.tryL (acc.app (nd 50 line s 0 0 ⟨#[]⟩ y))) p
end Go.Proofs.YtggngahmafbihaaGreatDoor
