/- Merged. -/
import Derived.OrdersHeld
import Derived.RowKit
namespace Go.Ax
inductive SN | cfg | opn | pr | en | res | nd | ed | gr | acc | pool | era | shr | thr | ev | cal | tou | wld | kin | sid | don | pth | p2 | p3 | sides | kins
 deriving DecidableEq
inductive EK | int | bool | st (s : SN) | sl (e : EK)
 deriving DecidableEq

structure Cfg where
 nodes : Int
 edges : Int
 props : Int
 ids : Int
 edgeIds : Int
structure Opn where
 kind : Int
 a : Int
 b : Int
 k : Int
 v : Int
structure Pr where
 k : Int
 v : Int
structure En where
 edge : Int
 node : Int
structure Res where
 err : Int
 id : Int
 pairs : List Pr
 out : List En
 inn : List En
structure Nd where
 id : Int
 pairs : List Pr
structure Ed where
 id : Int
 src : Int
 dst : Int
structure Gr where
 nodes : List Nd
 edges : List Ed
 nextNode : Int
 nextEdge : Int
structure Acc where
 kind : Int
 at_ : Int
 which : Int
 ref : Int
 field : Int
 value : Int
structure Pool where
 gens : List Int
 states : List Int
 when_ : List Int
 free : List Int
structure Era where
 now : Int
 pins : List Int
structure Shr where
 mem : List Int
 latches : List Int
 p0 : Pool
 p1 : Pool
 p2 : Pool
 era : Era
structure Thr where
 ops : List Opn
 at_ : Int
 busy : Bool
 got : List Int
structure Ev where
 thread : Int
 done : Bool
 op : Opn
 result : Res
structure Cal where
 thread : Int
 op : Opn
 from_ : Int
 to : Int
 result : Res
structure Tou where
 thread : Int
 which : Int
 slot : Int
 field : Int
 held : Int
 gen : Int
 state : Int
 store : Bool
structure Wld where
 shared : Shr
 threads : List Thr
 events : List Ev
 touches : List Tou
structure Kin where
 many : Int
 fields : Int
 at_ : Int
structure Sid where
 head : Int
 link : Int
 own : Int
 other : Int
structure Don where
 g : Gr
 r : Res
structure Pth where
 order : List Int
 graph : Gr
 many : Int
structure P2 where
 a : Int
 b : Int
structure P3 where
 a : Int
 b : Int
 c : Int
structure Sides where
 a : Sid
 b : Sid
structure Kins where
 a : Kin
 b : Kin
 c : Kin
 d : Kin
 e : Kin


@[reducible] def SN.T : SN → Type
 | .cfg => Cfg | .opn => Opn | .pr => Pr | .en => En | .res => Res | .nd => Nd | .ed => Ed | .gr => Gr | .acc => Acc | .pool => Pool | .era => Era | .shr => Shr
 | .thr => Thr | .ev => Ev | .cal => Cal | .tou => Tou | .wld => Wld | .kin => Kin | .sid => Sid | .don => Don | .pth => Pth | .p2 => P2 | .p3 => P3 | .sides => Sides | .kins => Kins
@[reducible] def EK.T : EK → Type
 | .int => Int
 | .bool => Bool
 | .st s => s.T
 | .sl e => List e.T
@[reducible] def HL : List EK → Type
 | [] => Unit
 | k :: ks => k.T × HL ks
def SN.ks : SN → List EK
 | .cfg => [.int, .int, .int, .int, .int] | .opn => [.int, .int, .int, .int, .int] | .pr => [.int, .int] | .en => [.int, .int]
 | .res => [.int, .int, .sl (.st .pr), .sl (.st .en), .sl (.st .en)] | .nd => [.int, .sl (.st .pr)] | .ed => [.int, .int, .int]
 | .gr => [.sl (.st .nd), .sl (.st .ed), .int, .int] | .acc => [.int, .int, .int, .int, .int, .int] | .pool => [.sl .int, .sl .int, .sl .int, .sl .int]
 | .era => [.int, .sl .int]
 | .shr => [.sl .int, .sl .int, .sl .int, .sl .int, .sl .int, .sl .int, .sl .int, .sl .int, .sl .int, .sl .int, .sl .int, .sl .int, .sl .int, .sl .int, .int, .sl .int]
 | .thr => [.sl (.st .opn), .int, .bool, .sl .int]
 | .ev => [.int, .bool, .int, .int, .int, .int, .int, .int, .int, .sl (.st .pr), .sl (.st .en), .sl (.st .en)]
 | .cal => [.int, .int, .int, .int, .int, .int, .int, .int, .int, .int, .sl (.st .pr), .sl (.st .en), .sl (.st .en)]
 | .tou => [.int, .int, .int, .int, .int, .int, .int, .bool]
 | .wld => [.sl .int, .sl .int, .sl .int, .sl .int, .sl .int, .sl .int, .sl .int, .sl .int, .sl .int, .sl .int, .sl .int, .sl .int, .sl .int, .sl .int, .int, .sl .int, .sl (.st .thr), .sl (.st .ev), .sl (.st .tou)]
 | .kin => [.int, .int, .int] | .sid => [.int, .int, .int, .int]
 | .don => [.sl (.st .nd), .sl (.st .ed), .int, .int, .int, .int, .sl (.st .pr), .sl (.st .en), .sl (.st .en)]
 | .pth => [.sl .int, .sl (.st .nd), .sl (.st .ed), .int, .int, .int]
 | .p2 => [.int, .int] | .p3 => [.int, .int, .int]
 | .sides => [.int, .int, .int, .int, .int, .int, .int, .int]
 | .kins => [.int, .int, .int, .int, .int, .int, .int, .int, .int, .int, .int, .int, .int, .int, .int]
def SN.un : (s : SN) → s.T → HL s.ks
 | .cfg, x => (x.nodes, x.edges, x.props, x.ids, x.edgeIds, ())
 | .opn, x => (x.kind, x.a, x.b, x.k, x.v, ())
 | .pr, x => (x.k, x.v, ())
 | .en, x => (x.edge, x.node, ())
 | .res, x => (x.err, x.id, x.pairs, x.out, x.inn, ())
 | .nd, x => (x.id, x.pairs, ())
 | .ed, x => (x.id, x.src, x.dst, ())
 | .gr, x => (x.nodes, x.edges, x.nextNode, x.nextEdge, ())
 | .acc, x => (x.kind, x.at_, x.which, x.ref, x.field, x.value, ())
 | .pool, x => (x.gens, x.states, x.when_, x.free, ())
 | .era, x => (x.now, x.pins, ())
 | .shr, x => (x.mem, x.latches, x.p0.gens, x.p0.states, x.p0.when_, x.p0.free, x.p1.gens, x.p1.states, x.p1.when_, x.p1.free, x.p2.gens, x.p2.states, x.p2.when_, x.p2.free, x.era.now, x.era.pins, ())
 | .thr, x => (x.ops, x.at_, x.busy, x.got, ())
 | .ev, x => (x.thread, x.done, x.op.kind, x.op.a, x.op.b, x.op.k, x.op.v, x.result.err, x.result.id, x.result.pairs, x.result.out, x.result.inn, ())
 | .cal, x => (x.thread, x.op.kind, x.op.a, x.op.b, x.op.k, x.op.v, x.from_, x.to, x.result.err, x.result.id, x.result.pairs, x.result.out, x.result.inn, ())
 | .tou, x => (x.thread, x.which, x.slot, x.field, x.held, x.gen, x.state, x.store, ())
 | .wld, x => (x.shared.mem, x.shared.latches, x.shared.p0.gens, x.shared.p0.states, x.shared.p0.when_, x.shared.p0.free, x.shared.p1.gens, x.shared.p1.states, x.shared.p1.when_, x.shared.p1.free, x.shared.p2.gens, x.shared.p2.states, x.shared.p2.when_, x.shared.p2.free, x.shared.era.now, x.shared.era.pins, x.threads, x.events, x.touches, ())
 | .kin, x => (x.many, x.fields, x.at_, ())
 | .sid, x => (x.head, x.link, x.own, x.other, ())
 | .don, x => (x.g.nodes, x.g.edges, x.g.nextNode, x.g.nextEdge, x.r.err, x.r.id, x.r.pairs, x.r.out, x.r.inn, ())
 | .pth, x => (x.order, x.graph.nodes, x.graph.edges, x.graph.nextNode, x.graph.nextEdge, x.many, ())
 | .p2, x => (x.a, x.b, ())
 | .p3, x => (x.a, x.b, x.c, ())
 | .sides, x => (x.a.head, x.a.link, x.a.own, x.a.other, x.b.head, x.b.link, x.b.own, x.b.other, ())
 | .kins, x => (x.a.many, x.a.fields, x.a.at_, x.b.many, x.b.fields, x.b.at_, x.c.many, x.c.fields, x.c.at_, x.d.many, x.d.fields, x.d.at_, x.e.many, x.e.fields, x.e.at_, ())
def SN.mk : (s : SN) → HL s.ks → s.T
 | .cfg, x => ⟨x.1, x.2.1, x.2.2.1, x.2.2.2.1, x.2.2.2.2.1⟩
 | .opn, x => ⟨x.1, x.2.1, x.2.2.1, x.2.2.2.1, x.2.2.2.2.1⟩
 | .pr, x => ⟨x.1, x.2.1⟩
 | .en, x => ⟨x.1, x.2.1⟩
 | .res, x => ⟨x.1, x.2.1, x.2.2.1, x.2.2.2.1, x.2.2.2.2.1⟩
 | .nd, x => ⟨x.1, x.2.1⟩
 | .ed, x => ⟨x.1, x.2.1, x.2.2.1⟩
 | .gr, x => ⟨x.1, x.2.1, x.2.2.1, x.2.2.2.1⟩
 | .acc, x => ⟨x.1, x.2.1, x.2.2.1, x.2.2.2.1, x.2.2.2.2.1, x.2.2.2.2.2.1⟩
 | .pool, x => ⟨x.1, x.2.1, x.2.2.1, x.2.2.2.1⟩
 | .era, x => ⟨x.1, x.2.1⟩
 | .shr, (m, l, a1, a2, a3, a4, b1, b2, b3, b4, c1, c2, c3, c4, n, p, ()) => ⟨m, l, ⟨a1, a2, a3, a4⟩, ⟨b1, b2, b3, b4⟩, ⟨c1, c2, c3, c4⟩, ⟨n, p⟩⟩
 | .thr, x => ⟨x.1, x.2.1, x.2.2.1, x.2.2.2.1⟩
 | .ev, (t, d, k, a, b, c, v, e, i, p, o, n, ()) => ⟨t, d, ⟨k, a, b, c, v⟩, ⟨e, i, p, o, n⟩⟩
 | .cal, (t, k, a, b, c, v, f, u, e, i, p, o, n, ()) => ⟨t, ⟨k, a, b, c, v⟩, f, u, ⟨e, i, p, o, n⟩⟩
 | .tou, x => ⟨x.1, x.2.1, x.2.2.1, x.2.2.2.1, x.2.2.2.2.1, x.2.2.2.2.2.1, x.2.2.2.2.2.2.1, x.2.2.2.2.2.2.2.1⟩
 | .wld, (m, l, a1, a2, a3, a4, b1, b2, b3, b4, c1, c2, c3, c4, n, p, t, e, u, ()) => ⟨⟨m, l, ⟨a1, a2, a3, a4⟩, ⟨b1, b2, b3, b4⟩, ⟨c1, c2, c3, c4⟩, ⟨n, p⟩⟩, t, e, u⟩
 | .kin, x => ⟨x.1, x.2.1, x.2.2.1⟩
 | .sid, x => ⟨x.1, x.2.1, x.2.2.1, x.2.2.2.1⟩
 | .don, (a, b, c, d, e, i, p, o, n, ()) => ⟨⟨a, b, c, d⟩, ⟨e, i, p, o, n⟩⟩
 | .pth, (r, a, b, c, d, m, ()) => ⟨r, ⟨a, b, c, d⟩, m⟩
 | .p2, x => ⟨x.1, x.2.1⟩
 | .p3, x => ⟨x.1, x.2.1, x.2.2.1⟩
 | .sides, (a, b, c, d, e, f, g, h, ()) => ⟨⟨a, b, c, d⟩, ⟨e, f, g, h⟩⟩
 | .kins, (a, b, c, d, e, f, g, h, i, j, k, l, m, n, o, ()) => ⟨⟨a, b, c⟩, ⟨d, e, f⟩, ⟨g, h, i⟩, ⟨j, k, l⟩, ⟨m, n, o⟩⟩
theorem SN.un_mk (s : SN) (x : HL s.ks) : s.un (s.mk x) = x := by cases s <;> rfl
open Go.RowKit
inductive AVal
 | int (x : Int)
 | bool (b : Bool)
 | sl (e : EK) (xs : List e.T)
 | sln (e : EK) (xs : List e.T)
 | bsl (e : EK) (xs : List e.T)
 | agg (l : List AVal)
 | tup (l : List AVal)
 | ptr (n off : Nat)
 | ept (n sz : Nat) (i : Int) (off : Nat)
 | dpt (q : Bool) (e : EK) (x : e.T) (off : Nat)
 | ixp (n b cnt sz : Nat) (i : Int) (off : Nat)
 | dxp (q : Bool) (e : EK) (x : e.T) (b cnt sz : Nat) (i : Int) (off : Nat)
 | own (n : Nat)
 | vw (n : Nat) (hi : Int)
 | vd (n sz : Nat) (lo hi : Int)
 | asl (n b cnt : Nat)
 | clo (f : Nat) (l : List AVal)
 | ifc (t : Nat) (v : AVal)
 | map (n : Nat)
 | con (v : Value)
 | any
 | ownC (n : Nat) (v : Value)
inductive AObj
 | box (l : List AVal)
 | arr (e : EK) (xs : List e.T)
 | dead

def EK.leafV : (k : EK) → k.T → AVal
 | .int, x => .int x
 | .bool, b => .bool b
 | .sl e, xs => .sl e xs
 | .st _, _ => .any
def EK.leafB : (k : EK) → k.T → AVal
 | .int, x => .int x
 | .bool, b => .bool b
 | .sl e, xs => .bsl e xs
 | .st _, _ => .any
def HL.vs : (ks : List EK) → HL ks → List AVal
 | [], _ => []
 | k :: ks, x => k.leafV x.1 :: HL.vs ks x.2
def HL.bs : (ks : List EK) → HL ks → List AVal
 | [], _ => []
 | k :: ks, x => k.leafB x.1 :: HL.bs ks x.2
def HL.nth : (ks : List EK) → HL ks → Nat → Option (Σ k : EK, k.T)
 | [], _, _ => none
 | k :: _, x, 0 => some ⟨k, x.1⟩
 | _ :: ks, x, j + 1 => HL.nth ks x.2 j
def EK.lv : (e : EK) → e.T → List AVal
 | .st s, x => HL.vs s.ks (s.un x)
 | .int, x => [.int x]
 | .bool, b => [.bool b]
 | .sl e, xs => [.sl e xs]
def EK.lb : (e : EK) → e.T → List AVal
 | .st s, x => HL.bs s.ks (s.un x)
 | .int, x => [.int x]
 | .bool, b => [.bool b]
 | .sl e, xs => [.bsl e xs]
def EK.sz : EK → Nat
 | .st s => s.ks.length
 | _ => 1
def kE : Value → Bool
 | .slice none 0 0 => true
 | _ => false
theorem cH {v : Value} (h : kE v = true) : v = .slice none 0 0 := by
 unfold kE at h
 split at h <;> simp_all
def AVal.leaf : (k : EK) → AVal → Option k.T
 | .int, .int x => some x
 | .bool, .bool b => some b
 | .sl e, .sl e' xs => if h : e' = e then some (h ▸ xs) else none
 | .sl e, .sln e' xs => if h : e' = e then some (h ▸ xs) else none
 | .sl _, .con v => if kE v then some [] else none
 | _, _ => none
def HL.of : (ks : List EK) → List AVal → Option (HL ks)
 | [], [] => some ()
 | k :: ks, v :: vs => (v.leaf k).bind fun x => (HL.of ks vs).bind fun r => some (x, r)
 | _, _ => none
def EK.iv : (e : EK) → List AVal → Option e.T
 | .st s, vs => (HL.of s.ks vs).bind fun r => some (s.mk r)
 | .int, [v] => v.leaf .int
 | .bool, [v] => v.leaf .bool
 | .sl e, [v] => v.leaf (.sl e)
 | _, _ => none
def EK.dft : (e : EK) → e.T
 | .int => 0
 | .bool => false
 | .sl _ => []
 | .st s => s.mk (go s.ks)
where
 dl : (k : EK) → k.T
  | .int => 0
  | .bool => false
  | .sl _ => []
  | .st .cfg => ⟨0, 0, 0, 0, 0⟩ | .st .opn => ⟨0, 0, 0, 0, 0⟩ | .st .pr => ⟨0, 0⟩ | .st .en => ⟨0, 0⟩ | .st .res => ⟨0, 0, [], [], []⟩ | .st .nd => ⟨0, []⟩ | .st .ed => ⟨0, 0, 0⟩
  | .st .gr => ⟨[], [], 0, 0⟩ | .st .acc => ⟨0, 0, 0, 0, 0, 0⟩ | .st .pool => ⟨[], [], [], []⟩ | .st .era => ⟨0, []⟩ | .st .shr => ⟨[], [], ⟨[], [], [], []⟩, ⟨[], [], [], []⟩, ⟨[], [], [], []⟩, ⟨0, []⟩⟩
  | .st .thr => ⟨[], 0, false, []⟩ | .st .ev => ⟨0, false, ⟨0, 0, 0, 0, 0⟩, ⟨0, 0, [], [], []⟩⟩ | .st .cal => ⟨0, ⟨0, 0, 0, 0, 0⟩, 0, 0, ⟨0, 0, [], [], []⟩⟩ | .st .tou => ⟨0, 0, 0, 0, 0, 0, 0, false⟩
  | .st .wld => ⟨⟨[], [], ⟨[], [], [], []⟩, ⟨[], [], [], []⟩, ⟨[], [], [], []⟩, ⟨0, []⟩⟩, [], [], []⟩
  | .st .kin => ⟨0, 0, 0⟩ | .st .sid => ⟨0, 0, 0, 0⟩ | .st .don => ⟨⟨[], [], 0, 0⟩, ⟨0, 0, [], [], []⟩⟩ | .st .pth => ⟨[], ⟨[], [], 0, 0⟩, 0⟩ | .st .p2 => ⟨0, 0⟩ | .st .p3 => ⟨0, 0, 0⟩
  | .st .sides => ⟨⟨0, 0, 0, 0⟩, ⟨0, 0, 0, 0⟩⟩ | .st .kins => ⟨⟨0, 0, 0⟩, ⟨0, 0, 0⟩, ⟨0, 0, 0⟩, ⟨0, 0, 0⟩, ⟨0, 0, 0⟩⟩
 go : (ks : List EK) → HL ks
  | [] => ()
  | k :: ks => (dl k, go ks)
def rd {e : EK} (xs : List e.T) (i : Int) : e.T := xs.getD i.toNat e.dft
def wr {e : EK} (xs : List e.T) (i : Int) (y : e.T) : List e.T := xs.set i.toNat y
abbrev rdE (e : EK) (xs : List e.T) (i : Int) : e.T := rd xs i
abbrev wrE (e : EK) (xs : List e.T) (i : Int) (y : e.T) : List e.T := wr xs i y
def aH {α β γ : Type} (x : α ⊕ β) (f : α → γ) (g : β → γ) : γ := match x with
 | .inl a => f a
 | .inr b => g b
def inR (i : Int) (n : Nat) : Bool := decide (0 ≤ i) && decide (i < (n : Int))

inductive Rd (w : World) (F : Nat → Prop) : (e : EK) → e.T → List Value → Prop
 | int (x : Int) : Rd w F .int x [.int .i64 x]
 | bool (b : Bool) : Rd w F .bool b [.bool b]
 | st (s : SN) (x : s.T) (cs : List Value) (hl : cs.length = s.ks.length) (h : ∀ (j : Nat) (k : EK) (y : k.T) (c : Value), HL.nth s.ks (s.un x) j = some ⟨k, y⟩ → cs[j]? = some c → Rd w F k y [c]) : Rd w F (.st s) x cs
 | nil (e : EK) (A : Option Addr := none) : Rd w F (.sl e) [] [.slice A 0 0]
 | sl (e : EK) (xs : List e.T) (b o cap : Nat) (rows : Nat → List Value) (hF : F b) (hc : xs.length ≤ cap) (hr : ∀ (i : Nat) (h : i < xs.length), Rd w F e xs[i] (rows i))
   (hz : ∀ i, i < xs.length → (rows i).length = e.sz) (hw : ∀ (i j : Nat) (v : Value), i < xs.length → (rows i)[j]? = some v → w.cell? ⟨b, o + i * e.sz + j, none⟩ = some v) :
   Rd w F (.sl e) xs [.slice (some ⟨b, o, none⟩) xs.length cap]

theorem bK {w w' : World} {a : Addr} (h : w'.heap[a.block]? = w.heap[a.block]?) : w'.cell? a = w.cell? a := by simp [World.cell?, h]
theorem Rd.mono {w w' : World} {F F' : Nat → Prop} (hb : ∀ b, F b → w'.heap[b]? = w.heap[b]?) (hf : ∀ b, F b → F' b) {e : EK} {x : e.T} {cs : List Value} (h : Rd w F e x cs) : Rd w' F' e x cs := by
 induction h with
 | int x => exact .int x
 | bool b => exact .bool b
 | st s x cs hl _ ih => exact .st s x cs hl (fun j k y c h1 h2 => ih j k y c h1 h2)
 | nil e A => exact .nil e A
 | sl e xs b o cap rows hF hc hr hz hw ih =>
  refine .sl e xs b o cap rows (hf b hF) hc (fun i h => ih i h) hz (fun i j v hi hj =>?_)
  rw [bK (w := w) (hb b hF)]
  exact hw i j v hi hj
theorem Rd.len {w : World} {F : Nat → Prop} {e : EK} {x : e.T} {cs : List Value} (h : Rd w F e x cs) : cs.length = e.sz := by
 cases h with
 | st s x cs hl _ => exact hl
 | _ => rfl

mutual
def VR (ρ : List Value) (w : World) (F B : Nat → Prop) : AVal → Value → Prop
 | .int x, v => v = .int .i64 x
 | .bool b, v => v = .bool b
 | .sl e xs, v => Rd w F (.sl e) xs [v]
 | .sln e xs, v => Rd w F (.sl e) xs [v] ∧ (xs = [] → v = .slice none 0 0)
 | .bsl e xs, v => Rd w B (.sl e) xs [v]
 | .agg l, v => ∃ cs : Array Value, v = .agg cs ∧ VRs ρ w F B l cs.toList
 | .tup l, v => ∃ cs : Array Value, v = .tuple cs ∧ VRs ρ w F B l cs.toList
 | .ptr n off, v => ∃ b, ρ[n]? = some (.pointer (some ⟨b, 0, none⟩)) ∧ v = .pointer (some ⟨b, off, none⟩)
 | .ept n sz i off, v => ∃ b o len cap, ρ[n]? = some (.slice (some ⟨b, o, none⟩) len cap) ∧ 0 ≤ i ∧ i < (len : Int) ∧ v = .pointer (some ⟨b, o + i.toNat * sz + off, none⟩)
 | .dpt q e x off, v => ∃ b o row, v = .pointer (some ⟨b, o + off, none⟩) ∧ (if q then B else F) b ∧ Rd w (if q then B else F) e x row ∧ ∀ (j : Nat) (u : Value), row[j]? = some u → w.cell? ⟨b, o + j, none⟩ = some u
 | .ixp n b0 cnt sz i off, v => ∃ b, ρ[n]? = some (.pointer (some ⟨b, 0, none⟩)) ∧ 0 ≤ i ∧ i < (cnt : Int) ∧ v = .pointer (some ⟨b, b0 + i.toNat * sz + off, none⟩)
 | .dxp q e x b0 cnt sz i off, v => ∃ b o row, v = .pointer (some ⟨b, o + (b0 + i.toNat * sz + off), none⟩) ∧ 0 ≤ i ∧ i < (cnt : Int) ∧ (if q then B else F) b ∧ Rd w (if q then B else F) e x row ∧ ∀ (j : Nat) (u : Value), row[j]? = some u → w.cell? ⟨b, o + j, none⟩ = some u
 | .own n, v => ρ[n]? = some v ∧ ∃ A len cap, v = .slice A len cap
 | .vw n hi, v => ∃ A len cap, ρ[n]? = some (.slice A len cap) ∧ 0 ≤ hi ∧ hi ≤ (len : Int) ∧ v = .slice A hi.toNat cap
 | .vd n sz lo hi, v => ∃ A len cap, ρ[n]? = some (.slice A len cap) ∧ 0 ≤ lo ∧ lo ≤ hi ∧ hi ≤ (len : Int) ∧ ((A = none ∧ hi = 0 ∧ v = .slice none 0 0) ∨ ∃ b o cap', A = some ⟨b, 0, none⟩ ∧ v = .slice (some ⟨b, o, none⟩) (hi - lo).toNat cap' ∧ (hi - lo).toNat ≤ cap' ∧ (lo < hi → o = lo.toNat * sz))
 | .asl n b0 cnt, v => ∃ b cap, ρ[n]? = some (.pointer (some ⟨b, 0, none⟩)) ∧ v = .slice (some ⟨b, b0, none⟩) cnt cap ∧ cnt ≤ cap
 | .clo f l, v => ∃ cs : Array Value, (v = .func (.func (f % 1000000)) (cs.extract 0 (f / 1000000)) (cs.extract (f / 1000000) cs.size) ∧ f / 1000000 ≤ cs.size) ∧ VRs ρ w F B l cs.toList
 | .ifc t a, v => ∃ u, v = .iface t u ∧ VR ρ w F B a u
 | .map n, v => ρ[n]? = some v ∧ ∃ r, v = .map (some r)
 | .con c, v => v = c
 | .any, _ => True
 | .ownC n c, v => ρ[n]? = some v ∧ v = c ∧ ∃ A len cap, v = .slice A len cap
def VRs (ρ : List Value) (w : World) (F B : Nat → Prop) : List AVal → List Value → Prop
 | [], [] => True
 | a :: l, v :: vs => VR ρ w F B a v ∧ VRs ρ w F B l vs
 | _, _ => False
end

section
variable {ρ : List Value} {w : World} {F B : Nat → Prop}
theorem VRs.length : ∀ {l : List AVal} {vs : List Value}, VRs ρ w F B l vs → l.length = vs.length
 | [], [], _ => rfl
 | _ :: l, _ :: vs, h => by simp only [VRs] at h; simp [VRs.length h.2]
 | [], _ :: _, h => by simp [VRs] at h
 | _ :: _, [], h => by simp [VRs] at h
theorem VRs.at : ∀ {l : List AVal} {vs : List Value}, VRs ρ w F B l vs → ∀ {i : Nat} {a : AVal}, l[i]? = some a → ∃ v, vs[i]? = some v ∧ VR ρ w F B a v
 | a :: l, v :: vs, h, 0, b, hb => by simp only [VRs] at h; simp at hb; subst hb; exact ⟨v, rfl, h.1⟩
 | a :: l, v :: vs, h, i + 1, b, hb => by simp only [VRs] at h; simp at hb; simpa using VRs.at h.2 hb
 | [], _, _, _, _, hb => by simp at hb
 | _ :: _, [], h, _, _, _ => by simp [VRs] at h
theorem VRs.of : ∀ {l : List AVal} {vs : List Value}, l.length = vs.length → (∀ (i : Nat) (a : AVal) (v : Value), l[i]? = some a → vs[i]? = some v → VR ρ w F B a v) → VRs ρ w F B l vs
 | [], [], _, _ => by simp [VRs]
 | a :: l, v :: vs, hl, h => by
  simp only [VRs]
  exact ⟨h 0 a v rfl rfl, VRs.of (by simpa using hl) (fun i b u hb hu => h (i + 1) b u (by simpa using hb) (by simpa using hu))⟩
 | [], _ :: _, hl, _ => by simp at hl
 | _ :: _, [], hl, _ => by simp at hl
theorem VRs.append {l l' : List AVal} {vs vs' : List Value} (h : VRs ρ w F B l vs) (h' : VRs ρ w F B l' vs') : VRs ρ w F B (l ++ l') (vs ++ vs') := by
 have hl := h.length
 refine VRs.of (by simp [hl, h'.length]) (fun i a v ha hv =>?_)
 by_cases c : i < l.length
 ·rw [List.getElem?_append_left c] at ha
  rw [List.getElem?_append_left (by omega)] at hv
  obtain ⟨u, hu, r⟩ := h.at ha
  rw [hv] at hu
  cases hu
  exact r
 ·rw [List.getElem?_append_right (by omega)] at ha
  rw [List.getElem?_append_right (by omega)] at hv
  obtain ⟨u, hu, r⟩ := h'.at ha
  rw [← hl, hu] at hv
  cases hv
  exact r
theorem VRs.sub {l : List AVal} {vs : List Value} (h : VRs ρ w F B l vs) (o n : Nat) : VRs ρ w F B ((l.drop o).take n) ((vs.drop o).take n) := by
 have hl := h.length
 refine VRs.of (by simp [hl]) (fun i a v ha hv =>?_)
 rw [List.getElem?_take] at ha hv
 split at ha
 ·rename_i c
  rw [if_pos c] at hv
  rw [List.getElem?_drop] at ha hv
  obtain ⟨u, hu, r⟩ := h.at ha
  rw [hv] at hu
  cases hu
  exact r
 ·cases ha
theorem VRs.set {l : List AVal} {vs : List Value} (h : VRs ρ w F B l vs) (i : Nat) {a : AVal} {v : Value} (ha : VR ρ w F B a v) : VRs ρ w F B (l.set i a) (vs.set i v) := by
 have hl := h.length
 refine VRs.of (by simp [hl]) (fun j b u hb hu =>?_)
 rw [List.getElem?_set] at hb hu
 by_cases c : i = j
 ·rw [if_pos c] at hb hu
  split at hb
  ·cases hb
   split at hu
   ·cases hu
    exact ha
   ·cases hu
  ·cases hb
 ·rw [if_neg c] at hb hu
  obtain ⟨u', hu', r⟩ := h.at hb
  rw [hu] at hu'
  cases hu'
  exact r
def AVal.unC : AVal → AVal
 | .ownC n _ => .own n
 | v => v
theorem VR.unC {a : AVal} {v : Value} (h : VR ρ w F B a v) : VR ρ w F B a.unC v := by
 cases a with
 | ownC n c => simp only [VR] at h; simp only [AVal.unC, VR]; exact ⟨h.1, h.2.2⟩
 | _ => exact h
end
theorem VR.mono {ρ ρ' : List Value} {w w' : World} {F B F' B' : Nat → Prop} (hρ : ∀ (n : Nat) (v : Value), ρ[n]? = some v → ρ'[n]? = some v) (hF : ∀ b, F b → w'.heap[b]? = w.heap[b]?) (hB : ∀ b, B b → w'.heap[b]? = w.heap[b]?) (hFF : ∀ b, F b → F' b) (hBB : ∀ b, B b → B' b) :
  (∀ (a : AVal) (v : Value), VR ρ w F B a v → VR ρ' w' F' B' a v) ∧ (∀ (l : List AVal) (vs : List Value), VRs ρ w F B l vs → VRs ρ' w' F' B' l vs) := by
 have hq0 : ∀ (q : Bool) (b : Nat), (if q then B else F) b → w'.heap[b]? = w.heap[b]? := fun q b h => by cases q; exact hF b h; exact hB b h
 have hq1 : ∀ (q : Bool) (b : Nat), (if q then B else F) b → (if q then B' else F') b := fun q b h => by cases q; exact hFF b h; exact hBB b h
 refine ⟨fun a =>?_, fun l =>?_⟩
 ·exact AVal.rec (motive_1 := fun a => ∀ v, VR ρ w F B a v → VR ρ' w' F' B' a v) (motive_2 := fun l => ∀ vs, VRs ρ w F B l vs → VRs ρ' w' F' B' l vs)
   (fun x v h => h) (fun x v h => h) (fun e xs v h => Rd.mono hF hFF h) (fun e xs v h => ⟨Rd.mono hF hFF h.1, h.2⟩) (fun e xs v h => Rd.mono hB hBB h)
   (fun l ih v h => by obtain ⟨cs, h1, h2⟩ := h; exact ⟨cs, h1, ih _ h2⟩) (fun l ih v h => by obtain ⟨cs, h1, h2⟩ := h; exact ⟨cs, h1, ih _ h2⟩)
   (fun n off v h => by obtain ⟨b, h1, h2⟩ := h; exact ⟨b, hρ _ _ h1, h2⟩) (fun n sz i off v h => by obtain ⟨b, o, len, cap, h1, h2⟩ := h; exact ⟨b, o, len, cap, hρ _ _ h1, h2⟩)
   (fun q e x off v h => by
    obtain ⟨b, o, row, h1, h2, h3, h4⟩ := h
    exact ⟨b, o, row, h1, hq1 q _ h2, Rd.mono (hq0 q) (hq1 q) h3, fun j u hu => by rw [bK (w := w) (hq0 q b h2)]; exact h4 j u hu⟩)
   (fun n b0 cnt sz i off v h => by obtain ⟨b, h1, h2⟩ := h; exact ⟨b, hρ _ _ h1, h2⟩)
   (fun q e x b0 cnt sz i off v h => by
    obtain ⟨b, o, row, h1, h2, h3, h4, h5, h6⟩ := h
    exact ⟨b, o, row, h1, h2, h3, hq1 q _ h4, Rd.mono (hq0 q) (hq1 q) h5, fun j u hu => by rw [bK (w := w) (hq0 q b h4)]; exact h6 j u hu⟩)
   (fun n v h => ⟨hρ _ _ h.1, h.2⟩) (fun n hi v h => by obtain ⟨A, len, cap, h1, h2⟩ := h; exact ⟨A, len, cap, hρ _ _ h1, h2⟩)
   (fun n sz lo hi v h => by obtain ⟨A, len, cap, h1, h2⟩ := h; exact ⟨A, len, cap, hρ _ _ h1, h2⟩) (fun n b0 cnt v h => by obtain ⟨b, cap, h1, h2⟩ := h; exact ⟨b, cap, hρ _ _ h1, h2⟩)
   (fun f l ih v h => by obtain ⟨cs, h1, h2⟩ := h; exact ⟨cs, h1, ih _ h2⟩) (fun t a ih v h => by obtain ⟨u, h1, h2⟩ := h; exact ⟨u, h1, ih _ h2⟩)
   (fun n v h => ⟨hρ _ _ h.1, h.2⟩) (fun c v h => h) (fun v h => trivial) (fun n c v h => ⟨hρ _ _ h.1, h.2⟩)
   (fun vs h => by cases vs <;> simp_all [VRs]) (fun a l iha ihl vs h => by cases vs <;> simp_all [VRs]) a
 ·exact AVal.rec_1 (motive_1 := fun a => ∀ v, VR ρ w F B a v → VR ρ' w' F' B' a v) (motive_2 := fun l => ∀ vs, VRs ρ w F B l vs → VRs ρ' w' F' B' l vs)
   (fun x v h => h) (fun x v h => h) (fun e xs v h => Rd.mono hF hFF h) (fun e xs v h => ⟨Rd.mono hF hFF h.1, h.2⟩) (fun e xs v h => Rd.mono hB hBB h)
   (fun l ih v h => by obtain ⟨cs, h1, h2⟩ := h; exact ⟨cs, h1, ih _ h2⟩) (fun l ih v h => by obtain ⟨cs, h1, h2⟩ := h; exact ⟨cs, h1, ih _ h2⟩)
   (fun n off v h => by obtain ⟨b, h1, h2⟩ := h; exact ⟨b, hρ _ _ h1, h2⟩) (fun n sz i off v h => by obtain ⟨b, o, len, cap, h1, h2⟩ := h; exact ⟨b, o, len, cap, hρ _ _ h1, h2⟩)
   (fun q e x off v h => by
    obtain ⟨b, o, row, h1, h2, h3, h4⟩ := h
    exact ⟨b, o, row, h1, hq1 q _ h2, Rd.mono (hq0 q) (hq1 q) h3, fun j u hu => by rw [bK (w := w) (hq0 q b h2)]; exact h4 j u hu⟩)
   (fun n b0 cnt sz i off v h => by obtain ⟨b, h1, h2⟩ := h; exact ⟨b, hρ _ _ h1, h2⟩)
   (fun q e x b0 cnt sz i off v h => by
    obtain ⟨b, o, row, h1, h2, h3, h4, h5, h6⟩ := h
    exact ⟨b, o, row, h1, h2, h3, hq1 q _ h4, Rd.mono (hq0 q) (hq1 q) h5, fun j u hu => by rw [bK (w := w) (hq0 q b h4)]; exact h6 j u hu⟩)
   (fun n v h => ⟨hρ _ _ h.1, h.2⟩) (fun n hi v h => by obtain ⟨A, len, cap, h1, h2⟩ := h; exact ⟨A, len, cap, hρ _ _ h1, h2⟩)
   (fun n sz lo hi v h => by obtain ⟨A, len, cap, h1, h2⟩ := h; exact ⟨A, len, cap, hρ _ _ h1, h2⟩) (fun n b0 cnt v h => by obtain ⟨b, cap, h1, h2⟩ := h; exact ⟨b, cap, hρ _ _ h1, h2⟩)
   (fun f l ih v h => by obtain ⟨cs, h1, h2⟩ := h; exact ⟨cs, h1, ih _ h2⟩) (fun t a ih v h => by obtain ⟨u, h1, h2⟩ := h; exact ⟨u, h1, ih _ h2⟩)
   (fun n v h => ⟨hρ _ _ h.1, h.2⟩) (fun c v h => h) (fun v h => trivial) (fun n c v h => ⟨hρ _ _ h.1, h.2⟩)
   (fun vs h => by cases vs <;> simp_all [VRs]) (fun a l iha ihl vs h => by cases vs <;> simp_all [VRs]) l
structure St where
 tm : List AVal
 hp : List AObj
abbrev Glb := Nat → Option (Σ e : EK, e.T)
def w64 (n : Int) : Int := IntKind.i64.wrap n
def aC (n : Int) : Int := IntKind.u64.wrap n
def aB (a b : Int) : Int := a.fdiv (2 ^ min b.toNat 64)
def aBh (a b : Int) : Int := w64 (a * 2 ^ min b.toNat 64)
def wX (a b : Int) : Int := w64 (((a % 18446744073709551616).toNat &&& (b % 18446744073709551616).toNat : Nat) : Int)
def or64 (a b : Int) : Int := w64 (((a % 18446744073709551616).toNat ||| (b % 18446744073709551616).toNat : Nat) : Int)

mutual
def AVal.mp (f : AVal → AVal) : AVal → AVal
 | .agg l => .agg (AVal.mpl f l)
 | .tup l => .tup (AVal.mpl f l)
 | .clo g l => .clo g (AVal.mpl f l)
 | .ifc t v => .ifc t (AVal.mp f v)
 | v => f v
def AVal.mpl (f : AVal → AVal) : List AVal → List AVal
 | [] => []
 | a :: l => AVal.mp f a :: AVal.mpl f l
end
def AVal.nm : AVal → Option Nat
 | .ptr n _ | .ept n _ _ _ | .ixp n _ _ _ _ _ | .own n | .vw n _ | .vd n _ _ _ | .asl n _ _ | .map n | .ownC n _ => some n
 | _ => none
def AVal.rename (n : Nat) : AVal → AVal
 | .ptr _ off => .ptr n off
 | .ept _ sz i off => .ept n sz i off
 | .ixp _ b cnt sz i off => .ixp n b cnt sz i off
 | .own _ => .own n
 | .vw _ hi => .vw n hi
 | .vd _ sz lo hi => .vd n sz lo hi
 | .asl _ b cnt => .asl n b cnt
 | .map _ => .map n
 | .ownC _ c => .ownC n c
 | v => v
def sI (g : Nat → Option Nat) (v : AVal) : AVal := match v.nm with
 | none => v
 | some n => match g n with
  | some m => v.rename m
  | none => .any
def nX (n : Nat) (v : AVal) : AVal := match v.nm with
 | none => v
 | some m => if m = n then .any else v
def frzV (n : Nat) (e : EK) (xs : List e.T) (v : AVal) : AVal := match v with
 | .own m => if m = n then .sl e xs else v
 | .ownC m _ => if m = n then .sl e xs else v
 | .vw m hi => if m = n then .sl e (xs.take hi.toNat) else v
 | .vd m sz lo hi => if m = n then (if sz = e.sz then .sl e ((xs.take hi.toNat).drop lo.toNat) else .any) else v
 | .ept m sz i off => if m = n then (if sz = e.sz then .dpt false e (rd xs i) off else .any) else v
 | v => v
def AObj.mp (f : AVal → AVal) : AObj → AObj
 | .box l => .box (AVal.mpl f l)
 | o => o
def St.mp (f : AVal → AVal) (s : St) : St := { tm := AVal.mpl f s.tm, hp := s.hp.map (AObj.mp f) }
def frz (n : Nat) (s : St) : St := match s.hp[n]? with
 | some (.arr e xs) => let s' := s.mp (frzV n e xs); { s' with hp := s'.hp.set n .dead }
 | _ => s
def AVal.row1 : AVal → List Nat
 | .own n | .vw n _ | .vd n _ _ _ | .ownC n _ => [n]
 | _ => []
def AVal.rows : AVal → List Nat
 | .agg l => l.flatMap AVal.row1
 | .tup l => l.flatMap fun | .agg l => l.flatMap AVal.row1 | v => v.row1
 | v => v.row1
def pK : List Nat → AVal → St → AVal × St
 | [], v, s => (v, s)
 | n :: l, v, s => match s.hp[n]? with
  | some (.arr e xs) => pK l (v.mp (frzV n e xs)) (frz n s)
  | _ => pK l v s

def cv0 : Value → AVal
 | .int .i64 n => .int n
 | .bool b => .bool b
 | .agg _ => .any
 | .tuple _ => .any
 | v => .con v
def cv : Value → AVal
 | .int .i64 n => .int n
 | .bool b => .bool b
 | .agg cs => .agg (cs.toList.map cv0)
 | .tuple cs => .tup (cs.toList.map cv0)
 | v => .con v
section
variable (P : Program) (gl : Glb)
def ev (s : St) : Operand → AVal
 | .tmp t => s.tm.getD t .any
 | .const v => cv v
 | .global g => match gl g with
  | some x => .dpt false x.1 x.2 0
  | none => .any
 | .func f => if f < 1000000 then .clo f [] else .any
def aggT (t : TypeId) : Option Bool := (P.underlying t).map fun | .struct _ => true | .array _ _ => true | _ => false
def szT (t : TypeId) : Option Nat := (P.info? t).map (·.size)
def bBq (t : TypeId) : Option (List AVal) := (P.info? t).bind fun i => i.zero.map fun v => v.cells.toList.map cv0
def wY (t : TypeId) (l : List AVal) (off : Nat) : Option AVal :=
 (aggT P t).bind fun q => if q then (szT P t).bind fun n => if off + n ≤ l.length then some (.agg ((l.drop off).take n)) else none
 else l[off]?
def ints : List (Option AVal) → Option (List Int)
 | [] => some []
 | some (.int x) :: l => (ints l).map (x :: ·)
 | _ :: _ => none
def sls (e : EK) : List (Option AVal) → Option (List (List e.T))
 | [] => some []
 | some v :: l => (v.leaf (.sl e)).bind fun x => (sls e l).map (x :: ·)
 | none :: _ => none
def ptrs (n off : Nat) : List (Option AVal) → Bool
 | [] => true
 | some (.ptr m o) :: l => m == n && o == off && ptrs n off l
 | _ :: _ => false
def selV (i : Int) (l : List (Option AVal)) : Option AVal := match l with
 | some (.int _) :: _ => (ints l).map fun xs => .int (rd (e := .int) xs i)
 | some (.sl e _) :: _ => (sls e l).map fun xs => .sl e (rd (e := .sl e) xs i)
 | some (.sln e _) :: _ => (sls e l).map fun xs => .sl e (rd (e := .sl e) xs i)
 | some (.ptr n off) :: _ => if ptrs n off l then some (.ptr n off) else none
 | _ => none
def selL (i : Int) (l : List AVal) (b cnt sz : Nat) : (off n : Nat) → Option (List AVal)
 | _, 0 => some []
 | off, n + 1 => (selV i ((List.range cnt).map fun k => l[b + k * sz + off]?)).bind fun v => (selL i l b cnt sz (off + 1) n).map (v :: ·)
def aBi (t : TypeId) (i : Int) (l : List AVal) (b cnt sz off : Nat) : Option AVal :=
 if b + cnt * sz ≤ l.length then
  (aggT P t).bind fun q => (if q then (szT P t).bind fun n => if off + n ≤ sz then (selL i l b cnt sz off n).map .agg else none
  else if off < sz then selV i ((List.range cnt).map fun k => l[b + k * sz + off]?) else none)
 else none
def ldA (s : St) (t : TypeId) : AVal → Option AVal
 | .ptr n off => match s.hp[n]? with
  | some (.box l) => wY P t l off
  | _ => none
 | .ept n sz i off => match s.hp[n]? with
  | some (.arr e xs) => if sz = e.sz then wY P t (e.lv (rd xs i)) off else none
  | _ => none
 | .dpt q e x off => wY P t (if q then e.lb x else e.lv x) off
 | .ixp n b cnt sz i off => match s.hp[n]? with
  | some (.box l) => aBi P t i l b cnt sz off
  | _ => none
 | .dxp q e x b cnt sz i off => aBi P t i (if q then e.lb x else e.lv x) b cnt sz off
 | _ => none
def AVal.one : AVal → Bool
 | .any | .agg _ | .tup _ => false
 | .con (.agg _) | .con (.tuple _) => false
 | _ => true
def aV : AVal → List AVal
 | .agg l => l
 | v => [v]
def yA (l : List AVal) (off : Nat) (cs : List AVal) : List AVal := l.take off ++ cs ++ l.drop (off + cs.length)
def mixV (c : Bool) : AVal → AVal → Option AVal
 | .int x, .int y => some (.int (bif c then x else y))
 | .bool x, .bool y => some (.bool (bif c then x else y))
 | .sl e xs, v => (v.leaf (.sl e)).map fun ys => .sl e (bif c then xs else ys)
 | .sln e xs, v => (v.leaf (.sl e)).map fun ys => .sl e (bif c then xs else ys)
 | .con u, .sl e ys => if kE u then some (.sl e (bif c then [] else ys)) else none
 | .con u, .con v => if kE u && kE v then some (.con u) else none
 | _, _ => none
def mixL (c : Bool) : List AVal → List AVal → Option (List AVal)
 | [], [] => some []
 | a :: l, b :: r => (mixV c a b).bind fun v => (mixL c l r).map (v :: ·)
 | _, _ => none
def putI (i : Int) (cs : List AVal) (b sz off : Nat) : Nat → List AVal → Option (List AVal)
 | 0, l => some l
 | k + 1, l => (mixL (i == Int.ofNat k) cs ((l.drop (b + k * sz + off)).take cs.length)).bind fun m => putI i cs b sz off k (yA l (b + k * sz + off) m)
def stA (s : St) (t : TypeId) (v : AVal) : AVal → Option St
 | .ptr n off => match s.hp[n]? with
  | some (.box l) => if szT P t = some (aV v).length ∧ off + (aV v).length ≤ l.length ∧ (aV v).all AVal.one then some { s with hp := s.hp.set n (.box (yA l off (aV v))) } else none
  | _ => none
 | .ept n sz i off => match s.hp[n]? with
  | some (.arr e xs) =>
   if szT P t = some (aV v).length ∧ off + (aV v).length ≤ e.sz ∧ sz = e.sz ∧ (aV v).all AVal.one then
    (e.iv (yA (e.lv (rd xs i)) off (aV v))).map fun y => { s with hp := s.hp.set n (.arr e (wr xs i y)) }
   else none
  | _ => none
 | .ixp n b cnt sz i off => match s.hp[n]? with
  | some (.box l) => if szT P t = some (aV v).length ∧ off + (aV v).length ≤ sz ∧ b + cnt * sz ≤ l.length ∧ (aV v).all AVal.one then (putI i (aV v) b sz off cnt l).map fun l' => { s with hp := s.hp.set n (.box l') } else none
  | _ => none
 | _ => none
def intT (t : TypeId) : Bool := match P.underlying t with
 | some (.int .i64) => true
 | _ => false
def u64T (t : TypeId) : Bool := match P.underlying t with
 | some (.int .u64) => true
 | _ => false
def aUf (t : TypeId) : Bool := match P.underlying t with
 | some .bool => true
 | _ => false
def eqL : List AVal → List AVal → Option Bool
 | [], [] => some true
 | .int a :: l, .int b :: r => (eqL l r).map fun q => (a == b) && q
 | .bool a :: l, .bool b :: r => (eqL l r).map fun q => (a == b) && q
 | _, _ => none
def pM (o : Nat) : List Field → List AVal → Bool
 | [], [] => true
 | f :: fs, .int _ :: l => f.offset == o && f.name != "_" && intT P f.type && pM (o + 1) fs l
 | f :: fs, .bool _ :: l => f.offset == o && f.name != "_" && aUf P f.type && pM (o + 1) fs l
 | _, _ => false
def eqA (t : TypeId) : AVal → AVal → Option Bool
 | .int a, .int b => some (a == b)
 | .bool a, .bool b => if aUf P t then some (a == b) else none
 | .sln _ xs, .con v => (match P.underlying t with | some (.slice _) => if kE v then some xs.isEmpty else none | _ => none)
 | .agg l, .agg r => (match P.underlying t with
  | some (.struct fs) => if pM P 0 fs.toList l && !P.stoodInHeld t && !P.eqGuardType P.depth t then eqL l r else none
  | _ => none)
 | .con (.slice a _ _), .con v => (match P.underlying t with | some (.slice _) => if kE v then some a.isNone else none | _ => none)
 | .ifc _ _, .con v => (match P.underlying t, v with | some (.interface _), .nilIface => some false | _, _ => none)
 | _, _ => none
def binA (op : BinOp) (t : TypeId) : AVal → AVal → Option (Bool × AVal)
 | .int a, .int b => match op with
  | .add => some (true, .int (w64 (a + b)))
  | .sub => some (true, .int (w64 (a - b)))
  | .mul => some (true, .int (w64 (a * b)))
  | .quo => some (b != 0, .int (w64 (a.tdiv b)))
  | .rem => some (b != 0, .int (a.tmod b))
  | .eql => some (true, .bool (a == b))
  | .neq => some (true, .bool (a != b))
  | .lss => some (true, .bool (decide (a < b)))
  | .leq => some (true, .bool (decide (a ≤ b)))
  | .gtr => some (true, .bool (decide (a > b)))
  | .geq => some (true, .bool (decide (a ≥ b)))
  | .shl => some (decide (0 ≤ b), .int (aBh a b))
  | .shr => some (decide (0 ≤ b), .int (aB a b))
  | .and => some (true, .int (wX a b))
  | .or => some (true, .int (or64 a b))
  | _ => none
 | .int a, .con (.int .u64 b) => match op with
  | .shl => if 0 ≤ b then some (true, .int (aBh a b)) else none
  | .shr => if 0 ≤ b then some (true, .int (aB a b)) else none
  | _ => none
 | .con (.int .u64 a), .int b => match op with
  | .shr => if 0 ≤ b then some (true, .con (.int .u64 (aB a b))) else none
  | _ => none
 | .con (.int .u64 a), .con (.int .u64 b) => match op with
  | .shr => if 0 ≤ b then some (true, .con (.int .u64 (aB a b))) else none
  | _ => none
 | x, y => match op with
  | .eql => (eqA P t x y).map fun b => (true, .bool b)
  | .neq => (eqA P t x y).map fun b => (true, .bool (!b))
  | _ => none
def EK.flat : EK → Bool
 | .sl _ => false
 | .st s => s.ks.all fun | .int => true | .bool => true | _ => false
 | _ => true
def vJ (k : EK) (l : List AVal) (b : Nat) : Nat → Option (List k.T)
 | 0 => some []
 | n + 1 => if b + k.sz ≤ l.length then (k.iv ((l.drop b).take k.sz)).bind fun x => (vJ k l (b + k.sz) n).map (x :: ·) else none
def rowA (s : St) (k : EK) : AVal → Option (List k.T)
 | .own m => match s.hp[m]? with
  | some (.arr k' ys) => if h : k' = k then some (h ▸ ys) else none
  | _ => none
 | .vw m hi => match s.hp[m]? with
  | some (.arr k' ys) => if h : k' = k then some ((h ▸ ys : List k.T).take hi.toNat) else none
  | _ => none
 | .vd m sz lo hi => match s.hp[m]? with
  | some (.arr k' ys) => if h : k' = k ∧ sz = k.sz then some (((h.1 ▸ ys : List k.T).take hi.toNat).drop lo.toNat) else none
  | _ => none
 | .sl k' ys => if h : k' = k then some (h ▸ ys) else none
 | .sln k' ys => if h : k' = k then some (h ▸ ys) else none
 | .bsl k' ys => if h : k' = k ∧ k.flat then some (h.1 ▸ ys) else none
 | .con (.slice _ 0 _) => some []
 | .asl n b cnt => match s.hp[n]? with
  | some (.box l) => vJ k l b cnt
  | _ => none
 | _ => none
def mX (place : Nat → Option (Nat × Nat)) (cells : List AVal) : List (Nat × AVal) → Option (List AVal)
 | [] => some cells
 | (i, v) :: rest => match place i with
  | none => none
  | some (off, size) => if (aV v).length = size ∧ off + size ≤ cells.length ∧ (aV v).all AVal.one then mX place (yA cells off (aV v)) rest else none
def aOj (t : TypeId) (parts : List (Nat × AVal)) : Option AVal := match P.info? t, P.underlying t with
 | some it, some (.array _ e) => match it.zero, P.info? e with
  | some z, some ie => (mX (fun i => some (i * ie.size, ie.size)) (z.cells.toList.map cv0) parts).map .agg
  | _, _ => none
 | some it, some (.struct fs) => match it.zero, fs.toList.mapM (fun f => (P.info? f.type).map fun i => (f.offset, i.size)) with
  | some z, some places => (mX (places.toArray[·]?) (z.cells.toList.map cv0) parts).map .agg
  | _, _ => none
 | _, _ => none
def aBj (t : TypeId) (f : Nat) : Option (Nat × TypeId) := match P.underlying t with
 | some (.struct fs) => (fs[f]?).map fun f => (f.offset, f.type)
 | _ => none
def aopP (o : Go.Op) (s : St) : Option (Bool × AVal) := match o with
 | .move x => some (true, ev gl s x)
 | .assign x => some (true, ev gl s x)
 | .pick c a b => match ev gl s c, ev gl s a, ev gl s b with
  | .bool c, .bool x, .bool y => some (true, .bool (bif c then x else y))
  | .bool c, .int x, .int y => some (true, .int (bif c then x else y))
  | .bool c, x, y => bif c then some (true, x) else some (true, y)
  | _, _, _ => none
 | .build t ps => (aOj P t (ps.toList.map fun p => (p.1, ev gl s p.2))).map fun v => (true, v)
 | .nilCheck x => match ev gl s x with
  | .ptr n off => some (true, .ptr n off)
  | .ept n sz i off => some (true, .ept n sz i off)
  | .dpt q e x off => some (true, .dpt q e x off)
  | .clo f l => some (true, .clo f l)
  | _ => none
 | .binOp op t x y _ => binA P op t (ev gl s x) (ev gl s y)
 | .unOp op _ x => match op, ev gl s x with
  | .not, .bool b => some (true, .bool (!b))
  | .neg, .int a => some (true, .int (w64 (0 - a)))
  | _, _ => none
 | .convert a b x => match ev gl s x with
  | .int n => if intT P a then (if intT P b then some (true, .int (w64 n)) else if u64T P b then some (true, .con (.int .u64 (aC n))) else none) else none
  | .con (.int .u64 n) => if u64T P a && intT P b then some (true, .int (w64 n)) else none
  | _ => none
 | .makeInterface t x => match P.underlying t with
  | some (.struct _) => some (true, .ifc t (ev gl s x))
  | _ => none
 | .makeFunc fn first cap => match fn with
  | .func f => if f < 1000000 then some (true, .clo (f + 1000000 * first.size) ((first.toList ++ cap.toList).map (ev gl s))) else none
  | _ => none
 | .fieldAddr t x f => (aBj P t f).bind fun r => if szT P r.2 = some 0 ∨ szT P r.2 = none then none else match ev gl s x with
  | .ptr n off => some (true, .ptr n (off + r.1))
  | .ept n sz i off => some (true, .ept n sz i (off + r.1))
  | .dpt q e x off => some (true, .dpt q e x (off + r.1))
  | .ixp n b cnt sz i off => some (true, .ixp n b cnt sz i (off + r.1))
  | .dxp q e x b cnt sz i off => some (true, .dxp q e x b cnt sz i (off + r.1))
  | _ => none
 | .field t x f => match ev gl s x with
  | .agg l => (aBj P t f).bind fun r => (wY P r.2 l r.1).map fun v => (true, v)
  | _ => none
 | .indexAddr t x i => match ev gl s i with
  | .int i => match P.underlying t with
   | some (.slice e) => match (ev gl s x).unC with
    | .own n => match s.hp[n]? with
     | some (.arr k xs) => if szT P e = some k.sz then some (inR i xs.length, .ept n k.sz i 0) else none
     | _ => none
    | .vw n hi => match s.hp[n]? with
     | some (.arr k _) => if szT P e = some k.sz then some (decide (0 ≤ i) && decide (i < hi), .ept n k.sz i 0) else none
     | _ => none
    | .sl k xs => if szT P e = some k.sz then some (inR i xs.length, .dpt false k (rd xs i) 0) else none
    | .sln k xs => if szT P e = some k.sz then some (inR i xs.length, .dpt false k (rd xs i) 0) else none
    | .bsl k xs => if szT P e = some k.sz then some (inR i xs.length, .dpt true k (rd xs i) 0) else none
    | .asl n b cnt => if szT P e = some 1 then some (inR i cnt, .ptr n (b + i.toNat)) else none
    | _ => none
   | some (.array len e) => (szT P e).bind fun sz => match ev gl s x with
    | .ptr n off => some (inR i len, .ixp n off len sz i 0)
    | .dpt q k x off => some (inR i len, .dxp q k x off len sz i 0)
    | _ => none
   | _ => none
  | _ => none
 | .index t x i => match ev gl s i with
  | .int i => match P.underlying t, ev gl s x with
   | some (.array len e), .agg l => (szT P e).bind fun sz => (aBi P e i l 0 len sz 0).map fun v => (inR i len, v)
   | _, _ => none
  | _ => none
 | .slice t x lo hi mx => match mx, P.underlying t with
  | none, some (.slice te) => match ev gl s x, lo.map (ev gl s), hi.map (ev gl s) with
   | .sl e xs, none, some (.int h) => if szT P te = some e.sz then some (decide (0 ≤ h) && decide (h ≤ xs.length), .sl e (xs.take h.toNat)) else none
   | .sl e xs, some (.int l), none => if szT P te = some e.sz then some (decide (0 ≤ l) && decide (l ≤ xs.length), .sl e (xs.drop l.toNat)) else none
   | .bsl e xs, none, some (.int h) => if szT P te = some e.sz then some (decide (0 ≤ h) && decide (h ≤ xs.length), .bsl e (xs.take h.toNat)) else none
   | .bsl e xs, some (.int l), none => if szT P te = some e.sz then some (decide (0 ≤ l) && decide (l ≤ xs.length), .bsl e (xs.drop l.toNat)) else none
   | .con v, none, some (.int h) => if kE v && (P.info? te).isSome then some (decide (h = 0), .con v) else none
   | .own n, none, some (.int h) => match s.hp[n]? with
    | some (.arr e xs) => if szT P te = some e.sz then some (decide (0 ≤ h) && decide (h ≤ xs.length), .vw n h) else none
    | _ => none
   | .own n, some (.int l), none => match s.hp[n]? with
    | some (.arr e xs) => if szT P te = some e.sz then some (decide (0 ≤ l) && decide (l ≤ xs.length), .vd n e.sz l xs.length) else none
    | _ => none
   | _, _, _ => none
  | none, some (.array len e) => match ev gl s x, lo, hi with
   | .ptr n off, none, none => if szT P e = some 0 ∨ szT P e = none ∨ len = 0 then none else some (true, .asl n off len)
   | _, _, _ => none
  | _, _ => none
 | .extract t i => match ev gl s t with
  | .tup l => (l[i]?).map fun v => (true, v)
  | _ => none
 | .typeAssert x _ t q => match q, ev gl s x, P.underlying t with
  | true, .ifc u v, some (.struct _) => if u = t then some (true, .tup [v, .bool true]) else none
  | _, _, _ => none
 | .call c => match c.callee with
  | .builtin b => match b, c.args.toList.map (ev gl s) with
   | .len, [x] => match (c.argTypes[0]?).bind P.underlying with
    | some (.slice _) => match x.unC with
     | .sl _ xs => some (true, .int xs.length)
     | .sln _ xs => some (true, .int xs.length)
     | .bsl _ xs => some (true, .int xs.length)
     | .con v => if kE v then some (true, .int 0) else none
     | .own n => match s.hp[n]? with
      | some (.arr _ xs) => some (true, .int xs.length)
      | _ => none
     | .vw _ hi => some (true, .int hi)
     | .vd _ _ lo hi => some (true, .int (hi - lo))
     | .asl _ _ cnt => some (true, .int cnt)
     | _ => none
    | some (.array n _) => some (true, .int n)
    | _ => none
   | .cap, [.con v] => match (c.argTypes[0]?).bind P.underlying with
    | some (.slice _) => if kE v then some (true, .int 0) else none
    | _ => none
   | .min, l => (ints (l.map some)).bind fun | [] => none | x :: xs => some (true, .int (xs.foldl min x))
   | .max, l => (ints (l.map some)).bind fun | [] => none | x :: xs => some (true, .int (xs.foldl max x))
   | _, _ => none
  | _ => none
 | _ => none
def vK : Go.Op → Bool
 | .move _ | .assign _ | .pick .. | .build .. | .nilCheck _ | .binOp .. | .unOp .. | .convert .. | .makeInterface .. | .makeFunc .. | .fieldAddr .. | .field .. | .indexAddr .. | .index .. | .slice .. | .extract .. | .typeAssert .. => true
 | .call c => match c.callee with
  | .builtin .len | .builtin .cap | .builtin .min | .builtin .max => true
  | _ => false
 | _ => false
def wrN (o : Go.Op) (s : St) : Option Nat := match o with
 | .store _ a _ => (ev gl s a).nm
 | .call c => match c.callee, c.args.toList.map (ev gl s) with
  | .builtin .append, [x, _] => x.nm
  | _, _ => none
 | _ => none
def bBr (kd : TypeId → Option EK) (o : Go.Op) (s : St) : Option (AVal × St) := match o with
 | .buildSlice t n ps => match P.underlying t with
  | some (.slice e) => match kd e, P.info? e with
   | none, some ie => match ie.zero with
    | some z => if ie.size = 1 ∧ 0 < n ∧ n ≤ 1000 then
      (mX (fun i => some (i * 1, 1)) ((List.range (n * 1)).map fun j => cv0 (z.cells[j % z.cells.size]!)) (ps.toList.map fun p => (p.1, ev gl s p.2))).map fun l =>
       (.asl s.hp.length 0 n, { s with hp := s.hp ++ [.box l] }) else none
    | none => none
   | _, _ => none
  | _ => none
 | _ => none
def preF (kd : TypeId → Option EK) (o : Go.Op) (s : St) : St := match o with
 | .buildSlice t _ ps => match P.underlying t with
  | some (.slice e) => match kd e with
   | some (.sl _) => (pK ((ps.toList.map fun p => (ev gl s p.2).rows).flatten) .any s).2
   | _ => s
  | _ => s
 | _ => s
def bBs : Operand → Operand → Bool
 | .tmp a, .tmp b => a == b
 | .const (.int .i64 x), .const (.int .i64 y) => x == y
 | _, _ => false
def aopE (kd : TypeId → Option EK) (o : Go.Op) (s : St) : Option (Bool × AVal × St) := match o with
 | .alloc t => (bBq P t).map fun l => (true, .ptr s.hp.length 0, { s with hp := s.hp ++ [.box l] })
 | .box _ x => match ev gl s x with
  | .agg l => some (true, .ptr s.hp.length 0, { s with hp := s.hp ++ [.box l] })
  | v => if v.one then some (true, .ptr s.hp.length 0, { s with hp := s.hp ++ [.box [v]] }) else none
 | .buildSlice t n ps => match P.underlying t with
  | some (.slice e) => match kd e, P.info? e with
   | some k, some ie => match ie.zero with
    | some z => if n = 0 then (if ie.size = k.sz ∧ ps.size = 0 then some (true, .own s.hp.length, { s with hp := s.hp ++ [.arr k []] }) else none) else if ie.size = k.sz ∧ 0 < n ∧ 0 < k.sz ∧ n * k.sz ≤ 1000 then
      (mX (fun i => some (i * k.sz, k.sz)) ((List.range (n * k.sz)).map fun j => cv0 (z.cells[j % z.cells.size]!)) (ps.toList.map fun p => (p.1, ev gl s p.2))).bind fun l => (vJ k l 0 n).map fun xs =>
       (true, .own s.hp.length, { s with hp := s.hp ++ [.arr k xs] }) else none
    | none => none
   | _, _ => none
  | _ => none
 | .makeSlice t l c => match P.underlying t with
  | some (.slice e) => match kd e, P.info? e, ev gl s l with
   | some k, some ie, .int n => match ie.zero with
    | some z => if ie.size = k.sz ∧ z.cells.size = k.sz ∧ 0 < k.sz ∧ ie.bytes ≤ 1000 ∧ bBs l c then (k.iv (z.cells.toList.map cv0)).map fun x =>
       (decide (0 ≤ n) && decide (n ≤ 1000000000), .own s.hp.length, { s with hp := s.hp ++ [.arr k (List.replicate n.toNat x)] }) else none
    | none => none
   | _, _, _ => none
  | _ => none
 | .store t a x => let r := pK (match ev gl s a with | .ept _ _ _ _ | .ixp _ _ _ _ _ _ => (ev gl s x).rows | _ => []) (ev gl s x) s
  (stA P r.2 t r.1 (ev gl s a)).map fun s' => (true, .any, s')
 | .call c => match c.callee, c.args.toList.map (ev gl s), c.argTypes.toList with
  | .builtin .append, [x, y], [t, t'] => if t = t' then match P.underlying t with
    | some (.slice e) => match kd e, P.info? e with
     | some k, some ie => match ie.zero with
      | some z => if ie.size = k.sz ∧ z.cells.size = k.sz ∧ 0 < k.sz ∧ ie.bytes ≤ 1000 then (rowA s k y).bind fun ys => match x with
       | .own n => (match s.hp[n]? with
        | some (.arr k' xs) => if h : k' = k then
          some (decide ((h ▸ xs : List k.T).length + ys.length ≤ 1000000000), .own n, { s.mp (nX n) with hp := (s.mp (nX n)).hp.set n (.arr k ((h ▸ xs) ++ ys)) }) else none
        | _ => none)
       | .vw n hi => (match s.hp[n]? with
        | some (.arr k' xs) => if h : k' = k then
          some (decide (hi.toNat + ys.length ≤ 1000000000), .own n, { s.mp (nX n) with hp := (s.mp (nX n)).hp.set n (.arr k ((h ▸ xs : List k.T).take hi.toNat ++ ys)) }) else none
        | _ => none)
       | .con v => if kE v then some (decide (ys.length ≤ 1000000000), .own s.hp.length, { s with hp := s.hp ++ [.arr k ys] }) else none
       | _ => none
       else none
      | none => none
     | _, _ => none
    | _ => none else none
  | _, _, _ => none
 | _ => none
end
end Go.Ax
