/- Contracts, and the plain mathematics beneath. -/
import Derived.Lib.Strings
import Derived.Test.YtggngahmafbihaaGreatDoorPerAD
import Derived.Test.YtggngahmafbihaaGreatDoorPerAA
set_option linter.unusedVariables false
set_option linter.unusedSimpArgs false
set_option maxRecDepth 100000
set_option maxHeartbeats 2000000
namespace Go.Proofs.YtggngahmafbihaaGreatDoor
open Go.RowKit Go.Lib
def qF(ea:Nat→Addr)(c:Nat):Value:=if c=0 then .nilIface else .iface 270 (.pointer (some (ea c)))
structure ErrsAt (w:World) (ea:Nat→Addr):Prop where
 syn:w.cell? ⟨1,0,none⟩=some (.iface 270 (.pointer (some (ea 111))))
 deep:w.cell? ⟨2,0,none⟩=some (.iface 270 (.pointer (some (ea 112))))
 many:w.cell? ⟨0,0,none⟩=some (.iface 270 (.pointer (some (ea 104))))
 range:w.cell? ⟨3,0,none⟩=some (.iface 270 (.pointer (some (ea 105))))
 shape:w.cell? ⟨6,0,none⟩=some (.iface 270 (.pointer (some (ea 103))))
 name:w.cell? ⟨7,0,none⟩=some (.iface 270 (.pointer (some (ea 106))))
 room:24<w.heap.size
theorem ErrsAt.keep{w w':World}{ea:Nat→Addr}(h:ErrsAt w ea)(hb: ∀b,b<24→w'.heap[b]?=w.heap[b]?)(hz:w.heap.size≤w'.heap.size):ErrsAt w' ea:=
 have hk: ∀p:Addr,p.block<24→w'.cell? p=w.cell? p:=fun p hp=>World.cell?_of_block (w:=w) (hb p.block hp)
 {
 syn:=(hk _ (by decide)).trans h.syn,
 deep:=(hk _ (by decide)).trans h.deep,
 many:=(hk _ (by decide)).trans h.many,
 range:=(hk _ (by decide)).trans h.range,
 shape:=(hk _ (by decide)).trans h.shape,
 name:=(hk _ (by decide)).trans h.name,
 room:=by have:=h.room;omega}
theorem ErrsAt.below{w w':World}{ea:Nat→Addr}{B:Nat}(h:ErrsAt w ea)(hb:Below B w w')(c:24≤B):ErrsAt w' ea:=h.keep (fun b a=>hb.block b (by omega)) hb.size
def qH(k n:Int)(s:ByteArray)(len:Nat):Nat:=
 if k<0∨4<k then 105
 else if k=1∧(n< -2147483648∨2147483647<n)then 105
 else if k=3∧(n<0∨14<n)then 105
 else if(k≠2∧s.data.toList≠ [])∨(k≠4∧0<len)∨((k=2∨k=4)∧n≠0)then 103
 else if zY s.data.toList=false then 103
 else 0
theorem qf5(n:Int)(s:ByteArray)(sa:Option Addr)(len sc:Nat)(ea:Nat→Addr)(w:World)(b:ErrsAt w ea)(k:Int)(hk:k<0):
 Calls Tryz.prog 195 #[.agg #[.int .i64 k,.int .i64 n,.string s,.slice sa len sc]] w fun e w'=>e= .returned (qF ea 105)∧Below w.heap.size w w':=by
 have hb:Below w.heap.size w (w.alloc (.cells #[.int .i64 k,.int .i64 n,.string s,.slice sa len sc] 28)):=(Below.refl _ _).alloc (Nat.le_refl _) _;have a:=b.below hb (Nat.le_of_lt b.room);have r:=a.range;have d:=a.shape;have c:=hid hb;clear hb a b;go_enter Tryz.func195,Tryz.ntmps195
 go_wp2_with fail
 go_ret
 exact⟨rfl,c.out⟩
theorem qf4(n:Int)(s:ByteArray)(sa:Option Addr)(len sc:Nat)(ea:Nat→Addr)(w:World)(b:ErrsAt w ea)(k:Int)(hk:4<k):
 Calls Tryz.prog 195 #[.agg #[.int .i64 k,.int .i64 n,.string s,.slice sa len sc]] w fun e w'=>e= .returned (qF ea 105)∧Below w.heap.size w w':=by
 have hb:Below w.heap.size w (w.alloc (.cells #[.int .i64 k,.int .i64 n,.string s,.slice sa len sc] 28)):=(Below.refl _ _).alloc (Nat.le_refl _) _;have a:=b.below hb (Nat.le_of_lt b.room);have r:=a.range;have f:=a.shape;have c:=hid hb;clear hb a b;have d:0≤k:=by omega
 go_enter Tryz.func195,Tryz.ntmps195
 go_wp2_with fail
 go_ret
 exact⟨rfl,c.out⟩
theorem qex(n:Int)(s:ByteArray)(sa:Option Addr)(len sc:Nat)(ea:Nat→Addr)(w:World)(b:ErrsAt w ea)(hn:n< -2147483648):
 Calls Tryz.prog 195 #[.agg #[.int .i64 1,.int .i64 n,.string s,.slice sa len sc]] w fun e w'=>e= .returned (qF ea 105)∧Below w.heap.size w w':=by
 have hb:Below w.heap.size w (w.alloc (.cells #[.int .i64 1,.int .i64 n,.string s,.slice sa len sc] 28)):=(Below.refl _ _).alloc (Nat.le_refl _) _;have a:=b.below hb (Nat.le_of_lt b.room);have r:=a.range;have d:=a.shape;have c:=hid hb;clear hb a b;go_enter Tryz.func195,Tryz.ntmps195
 go_wp2_with fail
 go_ret
 exact⟨rfl,c.out⟩
theorem qew(n:Int)(s:ByteArray)(sa:Option Addr)(len sc:Nat)(ea:Nat→Addr)(w:World)(b:ErrsAt w ea)(hn:2147483647<n):
 Calls Tryz.prog 195 #[.agg #[.int .i64 1,.int .i64 n,.string s,.slice sa len sc]] w fun e w'=>e= .returned (qF ea 105)∧Below w.heap.size w w':=by
 have hb:Below w.heap.size w (w.alloc (.cells #[.int .i64 1,.int .i64 n,.string s,.slice sa len sc] 28)):=(Below.refl _ _).alloc (Nat.le_refl _) _;have a:=b.below hb (Nat.le_of_lt b.room);have r:=a.range;have f:=a.shape;have c:=hid hb;clear hb a b;have d: -2147483648≤n:=by omega
 go_enter Tryz.func195,Tryz.ntmps195
 go_wp2_with fail
 go_ret
 exact⟨rfl,c.out⟩
theorem qeB(n:Int)(s:ByteArray)(sa:Option Addr)(len sc:Nat)(ea:Nat→Addr)(w:World)(b:ErrsAt w ea)(hn:n<0):
 Calls Tryz.prog 195 #[.agg #[.int .i64 3,.int .i64 n,.string s,.slice sa len sc]] w fun e w'=>e= .returned (qF ea 105)∧Below w.heap.size w w':=by
 have hb:Below w.heap.size w (w.alloc (.cells #[.int .i64 3,.int .i64 n,.string s,.slice sa len sc] 28)):=(Below.refl _ _).alloc (Nat.le_refl _) _;have a:=b.below hb (Nat.le_of_lt b.room);have r:=a.range;have d:=a.shape;have c:=hid hb;clear hb a b;go_enter Tryz.func195,Tryz.ntmps195
 go_wp2_with fail
 go_ret
 exact⟨rfl,c.out⟩
theorem qeA(n:Int)(s:ByteArray)(sa:Option Addr)(len sc:Nat)(ea:Nat→Addr)(w:World)(b:ErrsAt w ea)(hn:14<n):
 Calls Tryz.prog 195 #[.agg #[.int .i64 3,.int .i64 n,.string s,.slice sa len sc]] w fun e w'=>e= .returned (qF ea 105)∧Below w.heap.size w w':=by
 have hb:Below w.heap.size w (w.alloc (.cells #[.int .i64 3,.int .i64 n,.string s,.slice sa len sc] 28)):=(Below.refl _ _).alloc (Nat.le_refl _) _;have a:=b.below hb (Nat.le_of_lt b.room);have r:=a.range;have f:=a.shape;have c:=hid hb;clear hb a b;have d:0≤n:=by omega
 go_enter Tryz.func195,Tryz.ntmps195
 go_wp2_with fail
 go_ret
 exact⟨rfl,c.out⟩
theorem qfU(n:Int)(s:ByteArray)(sa:Option Addr)(len sc:Nat)(ea:Nat→Addr)(w:World)(b:ErrsAt w ea)(d:s.toList.isEmpty=false)(hs1: ¬s.toList= []):
 Calls Tryz.prog 195 #[.agg #[.int .i64 0,.int .i64 n,.string s,.slice sa len sc]] w fun e w'=>e= .returned (qF ea 103)∧Below w.heap.size w w':=by
 have hb:Below w.heap.size w (w.alloc (.cells #[.int .i64 0,.int .i64 n,.string s,.slice sa len sc] 28)):=(Below.refl _ _).alloc (Nat.le_refl _) _;have a:=b.below hb (Nat.le_of_lt b.room);have r:=a.range;have f:=a.shape;have c:=hid hb;clear hb a b;go_enter Tryz.func195,Tryz.ntmps195
 go_wp2_with fail
 go_ret
 exact⟨rfl,c.out⟩
theorem qfT(n:Int)(s:ByteArray)(sa:Option Addr)(len sc:Nat)(ea:Nat→Addr)(w:World)(b:ErrsAt w ea)(d:s.toList.isEmpty=true)(hs1:s.toList= [])(hl:0<len):
 Calls Tryz.prog 195 #[.agg #[.int .i64 0,.int .i64 n,.string s,.slice sa len sc]] w fun e w'=>e= .returned (qF ea 103)∧Below w.heap.size w w':=by
 have hb:Below w.heap.size w (w.alloc (.cells #[.int .i64 0,.int .i64 n,.string s,.slice sa len sc] 28)):=(Below.refl _ _).alloc (Nat.le_refl _) _;have a:=b.below hb (Nat.le_of_lt b.room);have r:=a.range;have f:=a.shape;have c:=hid hb;clear hb a b;have hl':(0:Int)<(len:Int):=by omega
 go_enter Tryz.func195,Tryz.ntmps195
 go_wp2_with fail
 go_ret
 exact⟨rfl,c.out⟩
theorem qev(n:Int)(s:ByteArray)(sa:Option Addr)(len sc:Nat)(ea:Nat→Addr)(w:World)(b:ErrsAt w ea)(f:s.toList.isEmpty=true)(hs1:s.toList= [])(hs:s.size≤140737488351232)(hp:zY s.data.toList=true):
 Calls Tryz.prog 195 #[.agg #[.int .i64 0,.int .i64 n,.string s,.slice sa 0 sc]] w fun e w'=>e= .returned (qF ea 0)∧Below w.heap.size w w':=by
 have hb:Below w.heap.size w (w.alloc (.cells #[.int .i64 0,.int .i64 n,.string s,.slice sa 0 sc] 28)):=(Below.refl _ _).alloc (Nat.le_refl _) _;have a:=b.below hb (Nat.le_of_lt b.room);have r:=a.range;have g:=a.shape;have c:=hid hb;clear hb a b
 have d:=hid (show ∀W,Calls Tryz.prog 225 #[.string s] W fun e w'=>e= .returned (.bool true)∧W=w' from fun W=>by
  have:=zZ s W hs;rw[hp]at this
  exact this)
 clear hp hs;go_enter Tryz.func195,Tryz.ntmps195
 go_wp2_with fail
 refine(d.out _).mono ?_;rintro e w' ⟨rfl,rfl⟩;go_wp2_with fail
 go_ret
 exact⟨rfl,c.out⟩
theorem qfW(n:Int)(s:ByteArray)(sa:Option Addr)(len sc:Nat)(ea:Nat→Addr)(w:World)(b:ErrsAt w ea)(d: -2147483648≤n)(f:n≤2147483647)(g:s.toList.isEmpty=false)(hs1: ¬s.toList= []):
 Calls Tryz.prog 195 #[.agg #[.int .i64 1,.int .i64 n,.string s,.slice sa len sc]] w fun e w'=>e= .returned (qF ea 103)∧Below w.heap.size w w':=by
 have hb:Below w.heap.size w (w.alloc (.cells #[.int .i64 1,.int .i64 n,.string s,.slice sa len sc] 28)):=(Below.refl _ _).alloc (Nat.le_refl _) _;have a:=b.below hb (Nat.le_of_lt b.room);have r:=a.range;have h:=a.shape;have c:=hid hb;clear hb a b;go_enter Tryz.func195,Tryz.ntmps195
 go_wp2_with fail
 go_ret
 exact⟨rfl,c.out⟩
theorem qfV(n:Int)(s:ByteArray)(sa:Option Addr)(len sc:Nat)(ea:Nat→Addr)(w:World)(b:ErrsAt w ea)(d: -2147483648≤n)(f:n≤2147483647)(g:s.toList.isEmpty=true)(hs1:s.toList= [])(hl:0<len):
 Calls Tryz.prog 195 #[.agg #[.int .i64 1,.int .i64 n,.string s,.slice sa len sc]] w fun e w'=>e= .returned (qF ea 103)∧Below w.heap.size w w':=by
 have hb:Below w.heap.size w (w.alloc (.cells #[.int .i64 1,.int .i64 n,.string s,.slice sa len sc] 28)):=(Below.refl _ _).alloc (Nat.le_refl _) _;have a:=b.below hb (Nat.le_of_lt b.room);have r:=a.range;have h:=a.shape;have c:=hid hb;clear hb a b;have hl':(0:Int)<(len:Int):=by omega
 go_enter Tryz.func195,Tryz.ntmps195
 go_wp2_with fail
 go_ret
 exact⟨rfl,c.out⟩
theorem qey(n:Int)(s:ByteArray)(sa:Option Addr)(len sc:Nat)(ea:Nat→Addr)(w:World)(b:ErrsAt w ea)(f: -2147483648≤n)(g:n≤2147483647)(h:s.toList.isEmpty=true)(hs1:s.toList= [])(hs:s.size≤140737488351232)(hp:zY s.data.toList=true):
 Calls Tryz.prog 195 #[.agg #[.int .i64 1,.int .i64 n,.string s,.slice sa 0 sc]] w fun e w'=>e= .returned (qF ea 0)∧Below w.heap.size w w':=by
 have hb:Below w.heap.size w (w.alloc (.cells #[.int .i64 1,.int .i64 n,.string s,.slice sa 0 sc] 28)):=(Below.refl _ _).alloc (Nat.le_refl _) _;have a:=b.below hb (Nat.le_of_lt b.room);have r:=a.range;have i:=a.shape;have c:=hid hb;clear hb a b
 have d:=hid (show ∀W,Calls Tryz.prog 225 #[.string s] W fun e w'=>e= .returned (.bool true)∧W=w' from fun W=>by
  have:=zZ s W hs;rw[hp]at this
  exact this)
 clear hp hs;go_enter Tryz.func195,Tryz.ntmps195
 go_wp2_with fail
 refine(d.out _).mono ?_;rintro e w' ⟨rfl,rfl⟩;go_wp2_with fail
 go_ret
 exact⟨rfl,c.out⟩
theorem qf1(n:Int)(s:ByteArray)(sa:Option Addr)(len sc:Nat)(ea:Nat→Addr)(w:World)(b:ErrsAt w ea)(d:0≤n)(f:n≤14)(g:s.toList.isEmpty=false)(hs1: ¬s.toList= []):
 Calls Tryz.prog 195 #[.agg #[.int .i64 3,.int .i64 n,.string s,.slice sa len sc]] w fun e w'=>e= .returned (qF ea 103)∧Below w.heap.size w w':=by
 have hb:Below w.heap.size w (w.alloc (.cells #[.int .i64 3,.int .i64 n,.string s,.slice sa len sc] 28)):=(Below.refl _ _).alloc (Nat.le_refl _) _;have a:=b.below hb (Nat.le_of_lt b.room);have r:=a.range;have h:=a.shape;have c:=hid hb;clear hb a b;go_enter Tryz.func195,Tryz.ntmps195
 go_wp2_with fail
 go_ret
 exact⟨rfl,c.out⟩
theorem qf0(n:Int)(s:ByteArray)(sa:Option Addr)(len sc:Nat)(ea:Nat→Addr)(w:World)(b:ErrsAt w ea)(d:0≤n)(f:n≤14)(g:s.toList.isEmpty=true)(hs1:s.toList= [])(hl:0<len):
 Calls Tryz.prog 195 #[.agg #[.int .i64 3,.int .i64 n,.string s,.slice sa len sc]] w fun e w'=>e= .returned (qF ea 103)∧Below w.heap.size w w':=by
 have hb:Below w.heap.size w (w.alloc (.cells #[.int .i64 3,.int .i64 n,.string s,.slice sa len sc] 28)):=(Below.refl _ _).alloc (Nat.le_refl _) _;have a:=b.below hb (Nat.le_of_lt b.room);have r:=a.range;have h:=a.shape;have c:=hid hb;clear hb a b;have hl':(0:Int)<(len:Int):=by omega
 go_enter Tryz.func195,Tryz.ntmps195
 go_wp2_with fail
 go_ret
 exact⟨rfl,c.out⟩
theorem qeC(n:Int)(s:ByteArray)(sa:Option Addr)(len sc:Nat)(ea:Nat→Addr)(w:World)(b:ErrsAt w ea)(f:0≤n)(g:n≤14)(h:s.toList.isEmpty=true)(hs1:s.toList= [])(hs:s.size≤140737488351232)(hp:zY s.data.toList=true):
 Calls Tryz.prog 195 #[.agg #[.int .i64 3,.int .i64 n,.string s,.slice sa 0 sc]] w fun e w'=>e= .returned (qF ea 0)∧Below w.heap.size w w':=by
 have hb:Below w.heap.size w (w.alloc (.cells #[.int .i64 3,.int .i64 n,.string s,.slice sa 0 sc] 28)):=(Below.refl _ _).alloc (Nat.le_refl _) _;have a:=b.below hb (Nat.le_of_lt b.room);have r:=a.range;have i:=a.shape;have c:=hid hb;clear hb a b
 have d:=hid (show ∀W,Calls Tryz.prog 225 #[.string s] W fun e w'=>e= .returned (.bool true)∧W=w' from fun W=>by
  have:=zZ s W hs;rw[hp]at this
  exact this)
 clear hp hs;go_enter Tryz.func195,Tryz.ntmps195
 go_wp2_with fail
 refine(d.out _).mono ?_;rintro e w' ⟨rfl,rfl⟩;go_wp2_with fail
 go_ret
 exact⟨rfl,c.out⟩
theorem qfX(n:Int)(s:ByteArray)(sa:Option Addr)(len sc:Nat)(ea:Nat→Addr)(w:World)(b:ErrsAt w ea)(hl:0<len):
 Calls Tryz.prog 195 #[.agg #[.int .i64 2,.int .i64 n,.string s,.slice sa len sc]] w fun e w'=>e= .returned (qF ea 103)∧Below w.heap.size w w':=by
 have hb:Below w.heap.size w (w.alloc (.cells #[.int .i64 2,.int .i64 n,.string s,.slice sa len sc] 28)):=(Below.refl _ _).alloc (Nat.le_refl _) _;have a:=b.below hb (Nat.le_of_lt b.room);have r:=a.range;have d:=a.shape;have c:=hid hb;clear hb a b;have hl':(0:Int)<(len:Int):=by omega
 go_enter Tryz.func195,Tryz.ntmps195
 go_wp2_with fail
 go_ret
 exact⟨rfl,c.out⟩
theorem qfY(n:Int)(s:ByteArray)(sa:Option Addr)(len sc:Nat)(ea:Nat→Addr)(w:World)(b:ErrsAt w ea)(hn:(n !=0)=true)(hn':(n==0)=false):
 Calls Tryz.prog 195 #[.agg #[.int .i64 2,.int .i64 n,.string s,.slice sa 0 sc]] w fun e w'=>e= .returned (qF ea 103)∧Below w.heap.size w w':=by
 have hb:Below w.heap.size w (w.alloc (.cells #[.int .i64 2,.int .i64 n,.string s,.slice sa 0 sc] 28)):=(Below.refl _ _).alloc (Nat.le_refl _) _;have a:=b.below hb (Nat.le_of_lt b.room);have r:=a.range;have d:=a.shape;have c:=hid hb;clear hb a b;go_enter Tryz.func195,Tryz.ntmps195
 go_wp2_with fail
 go_ret
 exact⟨rfl,c.out⟩
theorem qfZ(n:Int)(s:ByteArray)(sa:Option Addr)(len sc:Nat)(ea:Nat→Addr)(w:World)(b:ErrsAt w ea)(hs:s.size≤140737488351232)(hp:zY s.data.toList=false):
 Calls Tryz.prog 195 #[.agg #[.int .i64 2,.int .i64 0,.string s,.slice sa 0 sc]] w fun e w'=>e= .returned (qF ea 103)∧Below w.heap.size w w':=by
 have hb:Below w.heap.size w (w.alloc (.cells #[.int .i64 2,.int .i64 0,.string s,.slice sa 0 sc] 28)):=(Below.refl _ _).alloc (Nat.le_refl _) _;have a:=b.below hb (Nat.le_of_lt b.room);have r:=a.range;have f:=a.shape;have c:=hid hb;clear hb a b;have hn:((0:Int) !=0)=false:=rfl
 have d:=hid (show ∀W,Calls Tryz.prog 225 #[.string s] W fun e w'=>e= .returned (.bool false)∧W=w' from fun W=>by
  have:=zZ s W hs;rw[hp]at this
  exact this)
 clear hp hs;go_enter Tryz.func195,Tryz.ntmps195
 go_wp2_with fail
 refine(d.out _).mono ?_;rintro e w' ⟨rfl,rfl⟩;go_wp2_with fail
 go_ret
 exact⟨rfl,c.out⟩
theorem qez(n:Int)(s:ByteArray)(sa:Option Addr)(len sc:Nat)(ea:Nat→Addr)(w:World)(b:ErrsAt w ea)(hs:s.size≤140737488351232)(hp:zY s.data.toList=true):
 Calls Tryz.prog 195 #[.agg #[.int .i64 2,.int .i64 0,.string s,.slice sa 0 sc]] w fun e w'=>e= .returned (qF ea 0)∧Below w.heap.size w w':=by
 have hb:Below w.heap.size w (w.alloc (.cells #[.int .i64 2,.int .i64 0,.string s,.slice sa 0 sc] 28)):=(Below.refl _ _).alloc (Nat.le_refl _) _;have a:=b.below hb (Nat.le_of_lt b.room);have r:=a.range;have f:=a.shape;have c:=hid hb;clear hb a b;have hn:((0:Int) !=0)=false:=rfl
 have d:=hid (show ∀W,Calls Tryz.prog 225 #[.string s] W fun e w'=>e= .returned (.bool true)∧W=w' from fun W=>by
  have:=zZ s W hs;rw[hp]at this
  exact this)
 clear hp hs;go_enter Tryz.func195,Tryz.ntmps195
 go_wp2_with fail
 refine(d.out _).mono ?_;rintro e w' ⟨rfl,rfl⟩;go_wp2_with fail
 go_ret
 exact⟨rfl,c.out⟩
theorem qf3(n:Int)(s:ByteArray)(sa:Option Addr)(len sc:Nat)(ea:Nat→Addr)(w:World)(b:ErrsAt w ea)(d:s.toList.isEmpty=false)(hs1: ¬s.toList= []):
 Calls Tryz.prog 195 #[.agg #[.int .i64 4,.int .i64 n,.string s,.slice sa len sc]] w fun e w'=>e= .returned (qF ea 103)∧Below w.heap.size w w':=by
 have hb:Below w.heap.size w (w.alloc (.cells #[.int .i64 4,.int .i64 n,.string s,.slice sa len sc] 28)):=(Below.refl _ _).alloc (Nat.le_refl _) _;have a:=b.below hb (Nat.le_of_lt b.room);have r:=a.range;have f:=a.shape;have c:=hid hb;clear hb a b;go_enter Tryz.func195,Tryz.ntmps195
 go_wp2_with fail
 go_ret
 exact⟨rfl,c.out⟩
theorem qf2(n:Int)(s:ByteArray)(sa:Option Addr)(len sc:Nat)(ea:Nat→Addr)(w:World)(b:ErrsAt w ea)(d:s.toList.isEmpty=true)(hs1:s.toList= [])(hn:(n !=0)=true)(hn':(n==0)=false):
 Calls Tryz.prog 195 #[.agg #[.int .i64 4,.int .i64 n,.string s,.slice sa len sc]] w fun e w'=>e= .returned (qF ea 103)∧Below w.heap.size w w':=by
 have hb:Below w.heap.size w (w.alloc (.cells #[.int .i64 4,.int .i64 n,.string s,.slice sa len sc] 28)):=(Below.refl _ _).alloc (Nat.le_refl _) _;have a:=b.below hb (Nat.le_of_lt b.room);have r:=a.range;have f:=a.shape;have c:=hid hb;clear hb a b;go_enter Tryz.func195,Tryz.ntmps195
 go_wp2_with fail
 go_ret
 exact⟨rfl,c.out⟩
theorem qeD(n:Int)(s:ByteArray)(sa:Option Addr)(len sc:Nat)(ea:Nat→Addr)(w:World)(b:ErrsAt w ea)(f:s.toList.isEmpty=true)(hs1:s.toList= [])(hs:s.size≤140737488351232)(hp:zY s.data.toList=true):
 Calls Tryz.prog 195 #[.agg #[.int .i64 4,.int .i64 0,.string s,.slice sa len sc]] w fun e w'=>e= .returned (qF ea 0)∧Below w.heap.size w w':=by
 have hb:Below w.heap.size w (w.alloc (.cells #[.int .i64 4,.int .i64 0,.string s,.slice sa len sc] 28)):=(Below.refl _ _).alloc (Nat.le_refl _) _;have a:=b.below hb (Nat.le_of_lt b.room);have r:=a.range;have g:=a.shape;have c:=hid hb;clear hb a b
 have d:=hid (show ∀W,Calls Tryz.prog 225 #[.string s] W fun e w'=>e= .returned (.bool true)∧W=w' from fun W=>by
  have:=zZ s W hs;rw[hp]at this
  exact this)
 clear hp hs;go_enter Tryz.func195,Tryz.ntmps195
 go_wp2_with fail
 refine(d.out _).mono ?_;rintro e w' ⟨rfl,rfl⟩;go_wp2_with fail
 go_ret
 exact⟨rfl,c.out⟩
theorem kj(s:ByteArray):(s.toList.isEmpty=true∧s.toList= []∧s.data.toList= [])∨(s.toList.isEmpty=false∧ ¬s.toList= []∧s.data.toList≠ []):=by
 rw[Lib.toList_data]
 cases h:s.data.toList with
 |nil=>exact .inl ⟨rfl,rfl,rfl⟩
 |cons a t=>exact .inr ⟨rfl,by simp,by simp⟩
theorem qgZ(k n:Int)(s:ByteArray)(sa:Option Addr)(len sc:Nat)(ea:Nat→Addr)(w:World)(a:ErrsAt w ea)(hs:s.size≤140737488351232):
 Calls Tryz.prog 195 #[.agg #[.int .i64 k,.int .i64 n,.string s,.slice sa len sc]] w fun e w'=>e= .returned (qF ea (qH k n s len))∧Below w.heap.size w w':=by
 by_cases h0:k<0
 ·rw[show qH k n s len=105 by unfold qH;rw[if_pos (.inl h0)]]
  exact qf5 n s sa len sc ea w a k h0
 by_cases h4:4<k
 ·rw[show qH k n s len=105 by unfold qH;rw[if_pos (.inr h4)]]
  exact qf4 n s sa len sc ea w a k h4
 have hk:k=0∨k=1∨k=2∨k=3∨k=4:=by omega
 clear h0 h4;have g: ∀m:Int,m≠0→(m !=0)=true∧(m==0)=false:=fun m hm=>⟨by rw[bne_iff_ne];exact hm,by rw[beq_eq_false_iff_ne];exact hm⟩
 have c:s.data.toList= []→zY s.data.toList=true:=fun h=>by rw[h];rfl
 rcases hk with rfl|rfl|rfl|rfl|rfl
 ·rcases kj s with⟨e1,e2,e3⟩|⟨e1,e2,e3⟩
  ·by_cases hl:0<len
   ·rw[show qH 0 n s len=103 by simp[qH,e3,hl]]
    exact qfT n s sa len sc ea w a e1 e2 hl
   ·obtain rfl:len=0:=by omega
    rw[show qH 0 n s 0=0 by simp[qH,e3,zY]];exact qev n s sa 0 sc ea w a e1 e2 hs (c e3)
  ·rw[show qH 0 n s len=103 by unfold qH;rw[if_neg (by omega),if_neg (by omega),if_neg (by omega),if_pos (.inl ⟨by omega,e3⟩)]]
   exact qfU n s sa len sc ea w a e1 e2
 ·by_cases hr:n< -2147483648
  ·rw[show qH 1 n s len=105 by unfold qH;rw[if_neg (by omega),if_pos ⟨rfl,.inl hr⟩]]
   exact qex n s sa len sc ea w a hr
  by_cases b:2147483647<n
  ·rw[show qH 1 n s len=105 by unfold qH;rw[if_neg (by omega),if_pos ⟨rfl,.inr b⟩]]
   exact qew n s sa len sc ea w a b
  have d: -2147483648≤n:=by omega
  have f:n≤2147483647:=by omega
  rcases kj s with⟨e1,e2,e3⟩|⟨e1,e2,e3⟩
  ·by_cases hl:0<len
   ·rw[show qH 1 n s len=103 by unfold qH;rw[if_neg (by omega),if_neg (by omega),if_neg (by omega),if_pos (.inr (.inl ⟨by omega,hl⟩))]]
    exact qfV n s sa len sc ea w a d f e1 e2 hl
   ·obtain rfl:len=0:=by omega
    rw[show qH 1 n s 0=0 by unfold qH;rw[if_neg (by omega),if_neg (by omega),if_neg (by omega),if_neg (by simp[e3]),if_neg (by rw[c e3];decide)]];exact qey n s sa 0 sc ea w a d f e1 e2 hs (c e3)
  ·rw[show qH 1 n s len=103 by unfold qH;rw[if_neg (by omega),if_neg (by omega),if_neg (by omega),if_pos (.inl ⟨by omega,e3⟩)]]
   exact qfW n s sa len sc ea w a d f e1 e2
 ·by_cases hl:0<len
  ·rw[show qH 2 n s len=103 by unfold qH;rw[if_neg (by omega),if_neg (by omega),if_neg (by omega),if_pos (.inr (.inl ⟨by omega,hl⟩))]]
   exact qfX n s sa len sc ea w a hl
  obtain rfl:len=0:=by omega
  by_cases hn:n=0
  ·subst hn
   cases hp:zY s.data.toList with
   |true=>
    rw[show qH 2 0 s 0=0 by unfold qH;rw[if_neg (by omega),if_neg (by omega),if_neg (by omega),if_neg (by omega),if_neg (by rw[hp];decide)]];exact qez 0 s sa 0 sc ea w a hs hp
   |false=>
    rw[show qH 2 0 s 0=103 by unfold qH;rw[if_neg (by omega),if_neg (by omega),if_neg (by omega),if_neg (by omega),if_pos hp]];exact qfZ 0 s sa 0 sc ea w a hs hp
  ·rw[show qH 2 n s 0=103 by unfold qH;rw[if_neg (by omega),if_neg (by omega),if_neg (by omega),if_pos (.inr (.inr ⟨.inl rfl,hn⟩))]]
   exact qfY n s sa 0 sc ea w a (g n hn).1 (g n hn).2
 ·by_cases hr:n<0
  ·rw[show qH 3 n s len=105 by unfold qH;rw[if_neg (by omega),if_neg (by omega),if_pos ⟨rfl,.inl hr⟩]]
   exact qeB n s sa len sc ea w a hr
  by_cases b:14<n
  ·rw[show qH 3 n s len=105 by unfold qH;rw[if_neg (by omega),if_neg (by omega),if_pos ⟨rfl,.inr b⟩]]
   exact qeA n s sa len sc ea w a b
  have d:0≤n:=by omega
  have f:n≤14:=by omega
  rcases kj s with⟨e1,e2,e3⟩|⟨e1,e2,e3⟩
  ·by_cases hl:0<len
   ·rw[show qH 3 n s len=103 by unfold qH;rw[if_neg (by omega),if_neg (by omega),if_neg (by omega),if_pos (.inr (.inl ⟨by omega,hl⟩))]]
    exact qf0 n s sa len sc ea w a d f e1 e2 hl
   ·obtain rfl:len=0:=by omega
    rw[show qH 3 n s 0=0 by unfold qH;rw[if_neg (by omega),if_neg (by omega),if_neg (by omega),if_neg (by simp[e3]),if_neg (by rw[c e3];decide)]];exact qeC n s sa 0 sc ea w a d f e1 e2 hs (c e3)
  ·rw[show qH 3 n s len=103 by unfold qH;rw[if_neg (by omega),if_neg (by omega),if_neg (by omega),if_pos (.inl ⟨by omega,e3⟩)]]
   exact qf1 n s sa len sc ea w a d f e1 e2
 ·rcases kj s with⟨e1,e2,e3⟩|⟨e1,e2,e3⟩
  ·by_cases hn:n=0
   ·subst hn
    rw[show qH 4 0 s len=0 by unfold qH;rw[if_neg (by omega),if_neg (by omega),if_neg (by omega),if_neg (by simp[e3]),if_neg (by rw[c e3];decide)]];exact qeD 0 s sa len sc ea w a e1 e2 hs (c e3)
   ·rw[show qH 4 n s len=103 by unfold qH;rw[if_neg (by omega),if_neg (by omega),if_neg (by omega),if_pos (.inr (.inr ⟨.inr rfl,hn⟩))]]
    exact qf2 n s sa len sc ea w a e1 e2 (g n hn).1 (g n hn).2
  ·rw[show qH 4 n s len=103 by unfold qH;rw[if_neg (by omega),if_neg (by omega),if_neg (by omega),if_pos (.inl ⟨by omega,e3⟩)]]
   exact qf3 n s sa len sc ea w a e1 e2
section
def xR(k:Int)(s:ByteArray):Int:=if k=2 then s.size else 0
def ju:VL→Int→Int→Nat×Int
 | .nil,_,left=>(0,left)
 | .cons k n s sub rest,deep,left=>
   let r:Nat×Int:=if 40<deep then(112,left)else if left≤xR k s then(104,left)else if qH k n s sub.len=0 then ju sub (deep+1) (left-(1+xR k s))else(qH k n s sub.len,left-(1+xR k s))
   if r.1=0 then ju rest deep r.2 else r
def qM(k n:Int)(s:ByteArray)(sub:VL)(deep left:Int):Nat×Int:=
 if 40<deep then(112,left)else if left≤xR k s then(104,left)else if qH k n s sub.len=0 then ju sub (deep+1) (left-(1+xR k s))else(qH k n s sub.len,left-(1+xR k s))
theorem QL(k n:Int)(s:ByteArray)(sub rest:VL)(deep left:Int):
 ju (.cons k n s sub rest) deep left=if(qM k n s sub deep left).1=0 then ju rest deep (qM k n s sub deep left).2 else qM k n s sub deep left:=rfl
theorem qbm(k:Int)(s:ByteArray):0≤xR k s:=by unfold xR;split<;>omega
theorem Ql: ∀(l:VL)(deep left:Int),0≤left→0≤(ju l deep left).2∧(ju l deep left).2≤left
 | .nil,deep,left,h=>⟨h,Int.le_refl _⟩
 | .cons k n s sub rest,deep,left,h=>by
   have hm:=qbm k s
   have h1:0≤(qM k n s sub deep left).2∧(qM k n s sub deep left).2≤left:=by
    unfold qM;split
    ·exact⟨h,Int.le_refl _⟩
    ·split
     ·exact⟨h,Int.le_refl _⟩
     ·split
      ·have:=Ql sub (deep+1) (left-(1+xR k s)) (by omega);omega
      ·simp only;omega
   rw[QL];split
   ·have:=Ql rest deep (qM k n s sub deep left).2 h1.1;omega
   ·exact h1
theorem ZB(k n:Int)(s:ByteArray)(sub:VL)(deep left:Int)(h:0≤left):0≤(qM k n s sub deep left).2∧(qM k n s sub deep left).2≤left:=by
 have hm:=qbm k s;unfold qM;split
 ·exact⟨h,Int.le_refl _⟩
 ·split
  ·exact⟨h,Int.le_refl _⟩
  ·split
   ·have:=Ql sub (deep+1) (left-(1+xR k s)) (by omega);omega
   ·simp only;omega
def VL.fit:VL→Prop
 | .nil=>True
 | .cons _ _ s sub rest=>s.size≤140737488351232∧sub.len≤140737488351232∧sub.fit∧rest.fit
theorem VL.fit_drop: ∀(i:Nat)(l:VL),l.fit→(l.drop i).fit
 |0,l,h=>by rw[VL.drop];exact h
 |i+1,.nil,h=>h
 |i+1,.cons _ _ _ _ r,h=>VL.fit_drop i r h.2.2.2
def VL.size:VL→Nat
 | .nil=>0
 | .cons _ _ _ sub rest=>sub.size+rest.size+1
theorem VL.size_drop: ∀(i:Nat)(l:VL),(l.drop i).size≤l.size
 |0,l=>by rw[VL.drop];exact Nat.le_refl _
 |i+1,.nil=>Nat.le_refl _
 |i+1,.cons _ _ _ sub r=>by have:=VL.size_drop i r;simp only[VL.drop,VL.size];omega
def LfAt(w:World)(L:Nat)(left:Int):Prop:=w.heap[L]?=some (.cells #[.int .i64 left] 3 (0,0))
section
variable {w w' : World} {L : Nat} {left : Int}
theorem LfAt.lt(h:LfAt w L left):L<w.heap.size:=by
 rcases Nat.lt_or_ge L w.heap.size with a|hge
 ·exact a
 ·unfold LfAt at h;rw[Array.getElem?_eq_none hge]at h;cases h
theorem LfAt.c0(h:LfAt w L left):w.cell? ⟨L,0,none⟩=some (.int .i64 left):=cell_of_row w L 0 _ _ _ h
theorem LfAt.fr(h:LfAt w L left):w.frozen? ⟨L,0,none⟩=false:=by unfold LfAt at h;simp[World.frozen?,h]
theorem LfAt.alloc(h:LfAt w L left)(o:Obj):LfAt (w.alloc o) L left:=(Below.heap_alloc w o L h.lt).trans h
theorem LfAt.set(h:LfAt w L left)(n:Int):LfAt (w.setCell ⟨L,0,none⟩ (.int .i64 n)) L n:=by
 unfold LfAt at h⊢;simp[World.setCell,Array.getElem?_modify,h]
theorem LfAt.below(h:LfAt w L left){B:Nat}(hb:Below B w w')(a:L<B):LfAt w' L left:=(hb.block L a).trans h
end
theorem kw{a w:World}{row:Option Nat}(h:a.grownBy w row)(o:Obj):a.grownBy (w.alloc o) row:=
 ⟨h.os,h.tape,h.output,Nat.le_trans h.size (by simp),fun i hi b=>(Below.heap_alloc w o i (Nat.lt_of_lt_of_le hi h.size)).trans (h.block i hi b)⟩
theorem StB.below'{w w':World}{g:Nat}{a b c d:Value}(h:StB w g a b c d)(hb:Below w.heap.size w w'):StB w' g a b c d:=(hb.block g h.lt).trans h
theorem Zw{a w w':World}{row:Option Nat}(h:Below w.heap.size w w')(hz:a.heap.size≤w.heap.size):w.grownBy w' row:=xl h _
def qgJ(w:World)(L:Nat)(ea:Nat→Addr)(r:Nat×Int)(e:Ending)(w':World):Prop:=e= .returned (qF ea r.1)∧LfAt w' L r.2∧w.grownBy w' (some L)
def qae(N:Nat):Prop:= ∀(k n:Int)(s:ByteArray)(sub:VL)(sa:Option Addr)(sc:Nat)(deep left:Int)(L:Nat)(ea:Nat→Addr)(w:World),sub.size<N→ErrsAt w ea→LfAt w L left→24≤L→
 s.size≤140737488351232→sub.len≤140737488351232→sub.fit→sub.len≤sc→RpL w (fun b=>b<w.heap.size∧b≠L) sub sa→1≤deep→deep≤41→0≤left→left≤4096→
 Calls Tryz.prog 161 #[.agg #[.int .i64 k,.int .i64 n,.string s,.slice sa sub.len sc],.int .i64 deep,.pointer (some ⟨L,0,none⟩)] w (qgJ w L ea (qM k n s sub deep left))
theorem qbZ(N:Nat)(ih: ∀N',N'<N→qae N'):qae N:=by
 intro k n s sub sa sc deep left L ea w hN he hlf hL hss hsl hfit hsc T hd1 hd2 hl1 hl2;have hLl:=hlf.lt;obtain⟨wa,hwa⟩: ∃wa,wa=w.alloc (.cells #[.int .i64 k,.int .i64 n,.string s,.slice sa sub.len sc] 28):=⟨_,rfl⟩
 have hba:Below w.heap.size w wa:=by rw[hwa];exact(Below.refl _ _).alloc (Nat.le_refl _) _
 have hV:StB wa w.heap.size (.int .i64 k) (.int .i64 n) (.string s) (.slice sa sub.len sc):=by rw[hwa];exact StB.new w _ _ _ _
 have S:LfAt wa L left:=hlf.below hba hLl;have hea:ErrsAt wa ea:=he.below hba (Nat.le_of_lt he.room);have v0:=hV.c0;have v1:=hV.c1;have v2:=hV.c2;have v3:=hV.c3;have l0:=S.c0;have lf0:=S.fr;have eD:=hea.deep;have eM:=hea.many;have HBA:=hid hba;have HV:=hid hV;have HLF:=hid S;have HE:=hid hea;clear hV S hea;subst hwa;clear hba;by_cases hdp:40<deep
 ·have x:=hid (show qM k n s sub deep left=(112,left)by unfold qM;rw[if_pos hdp])
  go_enter Tryz.func161,Tryz.ntmps161
  go_wp2_with fail
  go_ret
  rw[x.out];exact⟨rfl,HLF.out,xl HBA.out _⟩
 have hdp':deep≤40:=by omega
 clear hdp;obtain⟨m,hm⟩: ∃m:Int,m=xR k s:=⟨_,rfl⟩
 have hm0:0≤m:=by rw[hm,xR];split<;>omega
 have hm1:m≤140737488351232:=by rw[hm,xR];split<;>omega
 by_cases D:left≤m
 ·have x:=hid (show qM k n s sub deep left=(104,left)by unfold qM;rw[if_neg (by omega), ←hm,if_pos D])
  by_cases hk:k=2
  ·subst hk
   have hlm':left≤(s.size:Int):=by rw[hm,xR,if_pos rfl]at D;exact D
   clear hm D hm0 hm1;go_enter Tryz.func161,Tryz.ntmps161
   go_wp2_with fail
   go_ret
   rw[x.out];exact⟨rfl,HLF.out,xl HBA.out _⟩
  ·have hk':(k==2)=false:=by rw[beq_eq_false_iff_ne];exact hk
   have hlm':left≤0:=by rw[hm,xR,if_neg hk]at D;exact D
   clear hm D hm0 hm1 hk;go_enter Tryz.func161,Tryz.ntmps161
   go_wp2_with fail
   go_ret
   rw[x.out];exact⟨rfl,HLF.out,xl HBA.out _⟩
 have hlm':m<left:=by omega
 clear D;have x:=hid (show qM k n s sub deep left=if qH k n s sub.len=0 then ju sub (deep+1) (left-(1+m))else(qH k n s sub.len,left-(1+m))by unfold qM;rw[if_neg (by omega), ←hm,if_neg (by omega)]);have HOWN:=hid (fun W hW=>qgZ k n s sa sub.len sc ea W hW hss);by_cases hk:k=2
 ·subst hk
  obtain rfl:m=(s.size:Int):=by rw[hm,xR,if_pos rfl]
  clear hm;obtain⟨R,c⟩: ∃R,R=(w.setCell ⟨L,0,none⟩ (.int .i64 (left-(1+(s.size:Int))))).alloc (.cells #[.int .i64 2,.int .i64 n,.string s,.slice sa sub.len sc] 28):=⟨_,rfl⟩
  have F:=hid (show ErrsAt R ea by rw[c];exact he.keep (fun b hb=>(Below.heap_alloc _ _ _ (by have:=he.room;simp[World.setCell];omega)).trans (Below.heap_setCell _ _ _ _ (by show b≠L;omega))) (by simp[World.setCell]));have X:=hid (show LfAt R L (left-(1+(s.size:Int)))by rw[c];exact(hlf.set _).alloc _);have p:=hid (show StB R w.heap.size (.int .i64 2) (.int .i64 n) (.string s) (.slice sa sub.len sc)by rw[c];have:=StB.new (w.setCell ⟨L,0,none⟩ (.int .i64 (left-(1+(s.size:Int))))) (.int .i64 2) (.int .i64 n) (.string s) (.slice sa sub.len sc);simpa[World.setCell]using this);have U:=hid (show w.grownBy R (some L)by rw[c];exact kw (qJ (jo w _) (.inl rfl) _) _);have am:R.heap.size=w.heap.size+1:=by rw[c];simp[World.setCell]
  have HZ1:=hid am;have Z:=hid c;have u0:=p.out.c0;have u1:=p.out.c1;have u2:=p.out.c2;have u3:=p.out.c3;have u3':=u3;rw[c]at u0 u1 u2 u3;clear c am;go_enter Tryz.func161,Tryz.ntmps161
  go_wp2_with fail
  rw[←Z.out];clear Z u0 u1 u2 u3 v0 v1 v2 v3 l0 lf0 eD eM;refine(HOWN.out _ F.out).mono ?_;rintro e w2 ⟨rfl,f⟩;have HV2:=hid (p.out.below' f);have G:=hid (X.out.below f X.out.lt);have HE2:=hid (F.out.below f (Nat.le_of_lt F.out.room));have d:=hid (zt U.out (Zw f U.out.size));have hz2:w.heap.size<w2.heap.size:=by have:=f.size;have:=HZ1.out;omega
  have x3:=HV2.out.c3;clear f;obtain⟨lf,C⟩: ∃lf:Int,lf=left-(1+(s.size:Int)):=⟨_,rfl⟩
  have ag:0≤lf:=by omega
  have ah:lf≤4096:=by omega
  rw[←C]at G x;clear C;by_cases r:qH 2 n s sub.len=0
  ·rw[if_pos r]at x
   rw[r];rw[show qF ea 0=Value.nilIface from rfl];have HRP:=hid T;clear T;go_wp2_with fail
   go_loopg [42] sub.len (fun kk v wr=> ∃(i:Nat)(l:Int),v= .int .i64 i∧i+kk=sub.len∧LfAt wr L l∧ErrsAt wr ea∧w2.grownBy wr (some L)∧0≤l∧l≤4096∧Hid (ju (sub.drop i) (deep+1) l=ju sub (deep+1) lf))
   case atStart=>exact⟨0,lf,rfl,by omega,G.out,HE2.out,jo _ _,ag,ah,by show ju (sub.drop 0) _ _=_;rw[VL.drop]⟩
   case round=>
    obtain⟨i,l,rfl,hik,z,K,q,ae,hl4,u⟩:=hrel;by_cases hi:i<sub.len
    ·obtain⟨g,rfl⟩: ∃g,gk=g+1:=⟨gk-1,by omega⟩
     obtain⟨k',n',s',sub',hd⟩:=VL.drop_of_lt i sub hi;have A:=HRP.out.grown (zt d.out q) (fun b hb=>⟨hb.1,fun e=>by injection e with e;exact hb.2 e⟩)
     obtain⟨b,o,O⟩: ∃b o,sa=some ⟨b,o,none⟩:=by
      cases sub with
      |nil=>simp[VL.len]at hi
      |cons _ _ _ _ _=>obtain⟨b,o,_,_,h,_⟩:=A;exact⟨b,o,h⟩
     rw[O]at A;have ac:=RpL.drop i sub b o A;rw[hd]at ac;obtain⟨b',o',P,Q,hA,hSb,c0,c1,c2,c3,hcl,al,_⟩:=ac;injection hA with hA
     injection hA with hA1 hA2
     subst hA1;subst hA2;have ad:=VL.fit_drop i sub hfit;rw[hd]at ad;obtain⟨hf1,hf2,hf3,_⟩:=ad;have E:=VL.size_drop i sub;rw[hd]at E;simp only[VL.size]at E;have aa:=hid u;have HDD:=hid hd;have HSA:=hid O;subst O;have HRS:=hid al;have H:=hid z;have a:=hid K;have j:=hid q;clear u hd A al z K q;rw[Nat.mul_comm 4 i]at c0 c1 c2 c3
     have ab:=hid (ih (sub'.size+1) (by omega) k' n' s' sub' P Q (deep+1) l L ea (wr.alloc (.cells #[.int .i64 k',.int .i64 n',.string s',.slice P sub'.len Q] 28)) (by omega)
      (a.out.keep (fun b hb=>Below.heap_alloc _ _ _ (by have:=a.out.room;omega)) (by simp)) (H.out.alloc _) hL hf1 hf2 hf3 hcl
      (HRS.out.keep (fun b hb=>Below.heap_alloc _ _ _ (by have:=hb.1;have:=d.out.size;have:=j.out.size;omega)) (fun b hb=>⟨by have:=hb.1;have:=d.out.size;have:=j.out.size;simp;omega,hb.2⟩)) (by omega) (by omega) ae hl4)
     have J:=hid (show ju (sub.drop i) (deep+1) l=if(qM k' n' s' sub' (deep+1) l).1=0 then ju (sub.drop (i+1)) (deep+1) (qM k' n' s' sub' (deep+1) l).2 else qM k' n' s' sub' (deep+1) l by rw[HDD.out,QL]);have t:=ZB k' n' s' sub' (deep+1) l ae;obtain⟨rc,rl,ak⟩: ∃rc rl,qM k' n' s' sub' (deep+1) l=(rc,rl):=⟨_,_,rfl⟩
     rw[ak]at ab J t;simp only at t;obtain⟨aj,hrg2⟩:=t;clear ak;go_wp2_with fail
     refine ab.out.mono ?_;rintro e w5 ⟨rfl,af,y⟩;have Y:=hid af;have V:=hid (zt (kw j.out _) (show(wr.alloc (.cells #[.int .i64 k',.int .i64 n',.string s',.slice P sub'.len Q] 28)).grownBy w5 (some L)from y));have HE5:=hid (a.out.keep (w':=w5) (fun b hb=>(y.block b (by have:=a.out.room;simp;omega) (fun e=>by injection e with e;omega)).trans (Below.heap_alloc _ _ _ (by have:=a.out.room;omega))) (Nat.le_trans (by simp) y.size));clear af y;by_cases M:rc=0
     ·subst M
      have I:=hid (J.out.symm.trans aa.out);rw[if_pos rfl]at I;rw[show qF ea 0=Value.nilIface from rfl];go_wp2_with fail
      go_roundg g
      case measure=>omega
      case rel=>exact⟨i+1,rl,by go_num,by omega,Y.out,HE5.out,V.out,aj,by omega,I.out⟩
     ·have I:=hid (J.out.symm.trans aa.out)
      rw[if_neg M]at I;have B:=hid (show qF ea rc= .iface 270 (.pointer (some (ea rc)))by unfold qF;rw[if_neg M]);rw[B.out];go_wp2_with fail
      go_ret
      rw[x.out, ←I.out, ←B.out];exact⟨rfl,Y.out,zt d.out V.out⟩
    ·obtain rfl:i=sub.len:=by omega
     rw[VL.drop_len]at u;have I:=hid u;have H:=hid z;have j:=hid q;clear u z q K;go_wp2_with fail
     go_ret
     rw[x.out, ←I.out];exact⟨rfl,H.out,zt d.out j.out⟩
  ·rw[if_neg r]at x
   obtain⟨oc,ai⟩: ∃oc,oc=qH 2 n s sub.len:=⟨_,rfl⟩
   rw[←ai]at x r⊢;clear ai;have a:=hid (show qF ea oc= .iface 270 (.pointer (some (ea oc)))by unfold qF;rw[if_neg r]);rw[a.out];go_wp2_with fail
   go_ret
   rw[x.out, ←a.out];exact⟨rfl,G.out,d.out⟩
 ·obtain rfl:m=0:=by rw[hm,xR,if_neg hk]
  have hk':(k==2)=false:=by rw[beq_eq_false_iff_ne];exact hk
  rw[show left-(1+0)=left-1 from by omega]at x;clear hm hk;obtain⟨R,c⟩: ∃R,R=(w.setCell ⟨L,0,none⟩ (.int .i64 (left-1))).alloc (.cells #[.int .i64 k,.int .i64 n,.string s,.slice sa sub.len sc] 28):=⟨_,rfl⟩
  have F:=hid (show ErrsAt R ea by rw[c];exact he.keep (fun b hb=>(Below.heap_alloc _ _ _ (by have:=he.room;simp[World.setCell];omega)).trans (Below.heap_setCell _ _ _ _ (by show b≠L;omega))) (by simp[World.setCell]));have X:=hid (show LfAt R L (left-1)by rw[c];exact(hlf.set _).alloc _);have p:=hid (show StB R w.heap.size (.int .i64 k) (.int .i64 n) (.string s) (.slice sa sub.len sc)by rw[c];have:=StB.new (w.setCell ⟨L,0,none⟩ (.int .i64 (left-1))) (.int .i64 k) (.int .i64 n) (.string s) (.slice sa sub.len sc);simpa[World.setCell]using this);have U:=hid (show w.grownBy R (some L)by rw[c];exact kw (qJ (jo w _) (.inl rfl) _) _);have am:R.heap.size=w.heap.size+1:=by rw[c];simp[World.setCell]
  have HZ1:=hid am;have Z:=hid c;have u0:=p.out.c0;have u1:=p.out.c1;have u2:=p.out.c2;have u3:=p.out.c3;have u3':=u3;rw[c]at u0 u1 u2 u3;clear c am;go_enter Tryz.func161,Tryz.ntmps161
  go_wp2_with fail
  rw[←Z.out];clear Z u0 u1 u2 u3 v0 v1 v2 v3 l0 lf0 eD eM;refine(HOWN.out _ F.out).mono ?_;rintro e w2 ⟨rfl,f⟩;have HV2:=hid (p.out.below' f);have G:=hid (X.out.below f X.out.lt);have HE2:=hid (F.out.below f (Nat.le_of_lt F.out.room));have d:=hid (zt U.out (Zw f U.out.size));have hz2:w.heap.size<w2.heap.size:=by have:=f.size;have:=HZ1.out;omega
  have x3:=HV2.out.c3;clear f;obtain⟨lf,C⟩: ∃lf:Int,lf=left-1:=⟨_,rfl⟩
  have ag:0≤lf:=by omega
  have ah:lf≤4096:=by omega
  rw[←C]at G x;clear C;by_cases r:qH k n s sub.len=0
  ·rw[if_pos r]at x
   rw[r];rw[show qF ea 0=Value.nilIface from rfl];have HRP:=hid T;clear T;go_wp2_with fail
   go_loopg [42] sub.len (fun kk v wr=> ∃(i:Nat)(l:Int),v= .int .i64 i∧i+kk=sub.len∧LfAt wr L l∧ErrsAt wr ea∧w2.grownBy wr (some L)∧0≤l∧l≤4096∧Hid (ju (sub.drop i) (deep+1) l=ju sub (deep+1) lf))
   case atStart=>exact⟨0,lf,rfl,by omega,G.out,HE2.out,jo _ _,ag,ah,by show ju (sub.drop 0) _ _=_;rw[VL.drop]⟩
   case round=>
    obtain⟨i,l,rfl,hik,z,K,q,ae,hl4,u⟩:=hrel;by_cases hi:i<sub.len
    ·obtain⟨g,rfl⟩: ∃g,gk=g+1:=⟨gk-1,by omega⟩
     obtain⟨k',n',s',sub',hd⟩:=VL.drop_of_lt i sub hi;have A:=HRP.out.grown (zt d.out q) (fun b hb=>⟨hb.1,fun e=>by injection e with e;exact hb.2 e⟩)
     obtain⟨b,o,O⟩: ∃b o,sa=some ⟨b,o,none⟩:=by
      cases sub with
      |nil=>simp[VL.len]at hi
      |cons _ _ _ _ _=>obtain⟨b,o,_,_,h,_⟩:=A;exact⟨b,o,h⟩
     rw[O]at A;have ac:=RpL.drop i sub b o A;rw[hd]at ac;obtain⟨b',o',P,Q,hA,hSb,c0,c1,c2,c3,hcl,al,_⟩:=ac;injection hA with hA
     injection hA with hA1 hA2
     subst hA1;subst hA2;have ad:=VL.fit_drop i sub hfit;rw[hd]at ad;obtain⟨hf1,hf2,hf3,_⟩:=ad;have E:=VL.size_drop i sub;rw[hd]at E;simp only[VL.size]at E;have aa:=hid u;have HDD:=hid hd;have HSA:=hid O;subst O;have HRS:=hid al;have H:=hid z;have a:=hid K;have j:=hid q;clear u hd A al z K q;rw[Nat.mul_comm 4 i]at c0 c1 c2 c3
     have ab:=hid (ih (sub'.size+1) (by omega) k' n' s' sub' P Q (deep+1) l L ea (wr.alloc (.cells #[.int .i64 k',.int .i64 n',.string s',.slice P sub'.len Q] 28)) (by omega)
      (a.out.keep (fun b hb=>Below.heap_alloc _ _ _ (by have:=a.out.room;omega)) (by simp)) (H.out.alloc _) hL hf1 hf2 hf3 hcl
      (HRS.out.keep (fun b hb=>Below.heap_alloc _ _ _ (by have:=hb.1;have:=d.out.size;have:=j.out.size;omega)) (fun b hb=>⟨by have:=hb.1;have:=d.out.size;have:=j.out.size;simp;omega,hb.2⟩)) (by omega) (by omega) ae hl4)
     have J:=hid (show ju (sub.drop i) (deep+1) l=if(qM k' n' s' sub' (deep+1) l).1=0 then ju (sub.drop (i+1)) (deep+1) (qM k' n' s' sub' (deep+1) l).2 else qM k' n' s' sub' (deep+1) l by rw[HDD.out,QL]);have t:=ZB k' n' s' sub' (deep+1) l ae;obtain⟨rc,rl,ak⟩: ∃rc rl,qM k' n' s' sub' (deep+1) l=(rc,rl):=⟨_,_,rfl⟩
     rw[ak]at ab J t;simp only at t;obtain⟨aj,hrg2⟩:=t;clear ak;go_wp2_with fail
     refine ab.out.mono ?_;rintro e w5 ⟨rfl,af,y⟩;have Y:=hid af;have V:=hid (zt (kw j.out _) (show(wr.alloc (.cells #[.int .i64 k',.int .i64 n',.string s',.slice P sub'.len Q] 28)).grownBy w5 (some L)from y));have HE5:=hid (a.out.keep (w':=w5) (fun b hb=>(y.block b (by have:=a.out.room;simp;omega) (fun e=>by injection e with e;omega)).trans (Below.heap_alloc _ _ _ (by have:=a.out.room;omega))) (Nat.le_trans (by simp) y.size));clear af y;by_cases M:rc=0
     ·subst M
      have I:=hid (J.out.symm.trans aa.out);rw[if_pos rfl]at I;rw[show qF ea 0=Value.nilIface from rfl];go_wp2_with fail
      go_roundg g
      case measure=>omega
      case rel=>exact⟨i+1,rl,by go_num,by omega,Y.out,HE5.out,V.out,aj,by omega,I.out⟩
     ·have I:=hid (J.out.symm.trans aa.out)
      rw[if_neg M]at I;have B:=hid (show qF ea rc= .iface 270 (.pointer (some (ea rc)))by unfold qF;rw[if_neg M]);rw[B.out];go_wp2_with fail
      go_ret
      rw[x.out, ←I.out, ←B.out];exact⟨rfl,Y.out,zt d.out V.out⟩
    ·obtain rfl:i=sub.len:=by omega
     rw[VL.drop_len]at u;have I:=hid u;have H:=hid z;have j:=hid q;clear u z q K;go_wp2_with fail
     go_ret
     rw[x.out, ←I.out];exact⟨rfl,H.out,zt d.out j.out⟩
  ·rw[if_neg r]at x
   obtain⟨oc,ai⟩: ∃oc,oc=qH k n s sub.len:=⟨_,rfl⟩
   rw[←ai]at x r⊢;clear ai;have a:=hid (show qF ea oc= .iface 270 (.pointer (some (ea oc)))by unfold qF;rw[if_neg r]);rw[a.out];go_wp2_with fail
   go_ret
   rw[x.out, ←a.out];exact⟨rfl,G.out,d.out⟩
theorem qgD(N:Nat):qae N:=by
 induction N using Nat.strongRecOn with
 |_ N a=>exact qbZ N a
end
namespace NL
def tot:NL→Nat
 | .nil=>0
 | .cons _ _ _ _ _ _ _ sub r=>1+sub.tot+r.tot
def deep:NL→Nat
 | .nil=>0
 | .cons _ _ _ _ _ _ _ sub r=>Nat.max (1+sub.deep) r.deep
def fit:NL→Prop
 | .nil=>True
 | .cons _ _ s _ _ t v sub r=>s.size≤140737488351232∧t.size≤140737488351232∧v.len≤140737488351232∧v.fit∧sub.len≤140737488351232∧sub.fit∧r.fit
theorem len_tot: ∀l:NL,l.len≤l.tot
 | .nil=>Nat.le_refl _
 | .cons _ _ _ _ _ _ _ sub r=>by have:=len_tot r;simp only[len,tot];omega
theorem tot_app: ∀a b:NL,(a.app b).tot=a.tot+b.tot
 | .nil,b=>by simp[app,tot]
 | .cons _ _ _ _ _ _ _ sub r,b=>by simp only[app,tot,tot_app r];omega
theorem deep_app: ∀a b:NL,(a.app b).deep=Nat.max a.deep b.deep
 | .nil,b=>by simp[app,deep]
 | .cons _ _ _ _ _ _ _ sub r,b=>by simp only[app,deep,deep_app r];exact(Nat.max_assoc _ _ _).symm
end NL
def qk(op:Int)(n:Nat):List Nat×Bool:=
 if op=1∨op=2∨op=45∨op=46 then([],n==0)
 else if op=3∨op=4∨op=26∨op=40 then([0],n==1)
 else if(5≤op∧op≤18)∨op=20∨op=22 then([0,0],n==2)
 else if op=19∨op=21 then([0,0,0],n==3)
 else if op=23 then([0,0]++List.replicate (n-2) 1,decide (2≤n))
 else if op=24∨op=25 then(List.replicate n 1,true)
 else if op=27 then([2,0],n==2)
 else if op=28 then((List.replicate (n-2) 3++(if 1<n then [4]else []))++ [0],decide (2≤n))
 else if op=29 then([0,5,0].take (Nat.min n 3),n==2||n==3)
 else if op=41 then((List.range n).map (fun i=>if n%2=1∧i=n-1 then 6 else if i%2=0 then 0 else 6),decide (2≤n))
 else if op=42∨op=44∨op=48 then([0,6],n==2)
 else if op=43 then([0,0,6],n==3)
 else if op=47 then(List.replicate n 0,decide (n≤1))
 else if op=49 then([6]++List.replicate (n-1) 8,decide (2≤n))
 else if op=50 then([5,6],n==2)
 else if op=51 then([6,6],n==2)
 else if op=52 then(List.replicate n 7,true)
 else([],false)
end Go.Proofs.YtggngahmafbihaaGreatDoor
