import GoSem.Step
import GoSem.Core.Region
namespace Go.Proofs.Ytabdjbkbfilhkaa.V
open Go

inductive CT where
  | int (k : IntKind) | bool | str | slice (e : TypeId) | ptr (e : TypeId) | func | nils
  deriving DecidableEq, Inhabited

inductive TC where
  | i (n : Int)
  | b (x : Bool)
  | s (l : List UInt8)
  | l (xs : List (List TC))
  | p (cs : List TC)
  | f (fn : FuncId) (caps : List (TypeId × List TC))
  deriving Inhabited

def TC.int : TC → Int | .i n => n | _ => 0
def TC.bool : TC → Bool | .b x => x | _ => false
def TC.str : TC → List UInt8 | .s x => x | _ => []
def TC.list : TC → List (List TC) | .l xs => xs | _ => []
def TC.cells : TC → List TC | .p cs => cs | _ => []

def nth (cs : List TC) (j : Nat) : TC := cs.getD j (.i 0)
def row (xs : List (List TC)) (i : Int) : List TC := xs.getD i.toNat []

inductive Fl where
  | sh | own (deep : Bool) | gone
  deriving DecidableEq, Inhabited

structure Cell where
  ct : CT
  fl : Fl
  c : TC
  deriving Inhabited

inductive TK where
  | int (k : IntKind) | bool | str | slice (e : TypeId) | ptr (e : TypeId) | func | struct (fs : List (Nat × TypeId)) | other
  /-- no type: what the call of a function does to what it is handed; strings.Builder, over its row of bytes -/
  | meth (k : Nat) | bld (e : TypeId)
  deriving Inhabited
structure TyR where
  kind : TK
  cts : List CT
  bytes : Nat
  cmp : Bool
  deriving Inhabited
abbrev Tab := TypeId → TyR

def TK.agg : TK → Bool | .struct _ => true | _ => false
def TK.isOther : TK → Bool | .other => true | .meth _ => true | .bld _ => true | _ => false

structure Ver where
  w : Nat
  c : Nat
  deriving DecidableEq, Inhabited

inductive SV where
  | dead
  | und
  | val (agg : Bool) (cs : List Cell)
  | tup (vs : List (Bool × List Cell))
  | bx (e : TypeId) (cs : List Cell)
  | al (agg : Bool) (h off n : Nat) (v : Ver)
  | fa (h off : Nat) (v : Nat)
  | ea (h off : Nat) (e : TypeId) (i : Int) (j : Nat) (v : Ver)
  | clo (fn : FuncId) (caps : List (Nat × Nat))
  /-- what was handed in to be written; an alias of a part of it; a box that holds a part of it; a builder -/
  | gv (cs : List Cell)
  | gal (agg : Bool) (off n : Nat)
  | gbx (e : TypeId) (off n : Nat)
  | bld (t e : TypeId) (l : List UInt8)
  /-- rows lo to hi of a row of the call's own -/
  | sub (h off : Nat) (e : TypeId) (lo hi : Int) (v : Ver)
  deriving Inhabited

def gh : Nat := 1000000

structure Slot where
  sv : SV
  v : Ver
  deriving Inhabited

def Slot.none : Slot := ⟨.dead, ⟨0, 0⟩⟩
abbrev St := Nat → Slot
def St.set (σ : St) (n : Nat) (s : Slot) : St := fun m => bif m.beq n then s else σ m

abbrev Arg := Bool × List (CT × TC)
abbrev Res := List (Bool × List Cell)

inductive R (α : Type) where
  | ret (a : α)
  | fail
  | get (n : Nat) (k : Slot → R α)
  | chk (c : Prop) (d : Decidable c) (k : R α)
  | br (c : Bool) (k : Bool → R α)
  | call (f : FuncId) (as : List Arg) (k : Res → R α)

def R.bind {α β : Type} : R α → (α → R β) → R β
  | .ret a, f => f a
  | .fail, _ => .fail
  | .get n k, f => .get n fun s => (k s).bind f
  | .chk c d k, f => .chk c d (k.bind f)
  | .br c k, f => .br c fun b => (k b).bind f
  | .call g as k, f => .call g as fun r => (k r).bind f

instance : Monad R where
  pure := R.ret
  bind := R.bind

def R.guard (c : Prop) [d : Decidable c] : R Unit := .chk c d (.ret ())
def R.slot (n : Nat) : R Slot := .get n .ret
def R.view (n : Nat) : R Slot := do
  let s ← R.slot n
  match s.sv with
  | .gal g off k => do
    let s' ← R.slot gh
    pure ⟨.al g gh off k s'.v, s.v⟩
  | _ => pure s
def R.opt {α : Type} : Option α → R α | some a => .ret a | .none => .fail

def R.exec {α ρ : Type} (D : FuncId → List Arg → Option (Bool × Res)) (σ : St) : R α → List Nat → (α → List Nat → Option ρ) → Option ρ
  | .ret a, rs, K => K a rs
  | .fail, _, _ => .none
  | .get n k, rs, K => (k (σ n)).exec D σ (n :: rs) K
  | .chk c d k, rs, K => @ite _ c d (k.exec D σ rs K) .none
  | .br c k, rs, K => if c = true then (k true).exec D σ rs K else (k false).exec D σ rs K
  | .call g as k, rs, K => (D g as).bind fun p => if p.1 = true then (k p.2).exec D σ rs K else .none

/-! ### Cells -/
def CT.mem : CT → Bool | .slice _ | .ptr _ | .func | .nils => true | _ => false
def Cell.free (c : Cell) : Bool := !c.ct.mem || c.fl == .sh
def Cell.isGone (c : Cell) : Bool := c.fl == .gone
def Cell.deep (c : Cell) : Bool := !c.ct.mem || c.fl == .own true
def Cell.share (c : Cell) : Cell := { c with fl := .sh }
def Cell.leave (c : Cell) : Cell := if c.ct.mem then { c with fl := .gone } else c

def zeroTC : CT → Option TC
  | .int _ => some (.i 0) | .bool => some (.b false) | .str => some (.s []) | .slice _ => some (.l []) | .nils => some (.l []) | _ => .none
def zeroCell (ct : CT) : Option Cell := (zeroTC ct).map fun c => ⟨ct, .own true, c⟩
def zeroCells (cts : List CT) : Option (List Cell) := cts.mapM zeroCell

def fit (ct : CT) (c : Cell) : Option Cell :=
  if c.ct = ct then some c
  else match c.ct, ct with
    | .nils, .slice e => some ⟨.slice e, .own true, .l []⟩
    | _, _ => .none
def fitAll : List CT → List Cell → Option (List Cell)
  | [], [] => some []
  | ct :: cts, c :: cs => (fit ct c).bind fun d => (fitAll cts cs).map (d :: ·)
  | _, _ => .none

def ctsOf (cs : List Cell) : List CT := cs.map (·.ct)
def anyMem (cts : List CT) : Bool := cts.any CT.mem

def normTC (ct : CT) (c : TC) : TC := match ct with | .int _ => .i c.int | .bool => .b c.bool | .str => .s c.str | .slice _ => .l c.list | .ptr _ => .p c.cells | _ => c

def readCells (cts : List CT) (cs : List TC) (off : Nat) : List Cell :=
  (cts.zipIdx).map fun (ct, k) => ⟨ct, .sh, normTC ct (nth cs (off + k))⟩

def splice {α : Type} (l : List α) (off : Nat) (ys : List α) : List α := l.take off ++ ys ++ l.drop (off + ys.length)

/-! ### Operands -/
def valueSV : Value → Option SV
  | .int k n => some (.val false [⟨.int k, .sh, .i n⟩])
  | .bool b => some (.val false [⟨.bool, .sh, .b b⟩])
  | .string s => some (.val false [⟨.str, .sh, .s s.data.toList⟩])
  | .slice .none 0 0 => some (.val false [⟨.nils, .own true, .l []⟩])
  | _ => .none

def SV.home : SV → Option (List Cell)
  | .val _ cs => some cs
  | .bx _ cs => some cs
  | .gv cs => some cs
  | _ => .none

def homeCells (h off n : Nat) (v : Ver) : R (List Cell) := do
  let s ← R.slot h
  if s.v = v then
    match s.sv.home with
    | some cs => if ((cs.drop off).take n).length = n then pure ((cs.drop off).take n) else .fail
    | .none => .fail
  else .fail

def peek (x : Operand) : R (Bool × List Cell) :=
  match x with
  | .const v => match valueSV v with
    | some (.val g cs) => pure (g, cs)
    | _ => .fail
  | .tmp t => do
    let s ← R.view t
    match s.sv with
    | .val g cs => if cs.any Cell.isGone then .fail else pure (g, cs)
    | .al g h off n v => do
      let cs ← homeCells h off n v
      if cs.any Cell.isGone then .fail else pure (g, cs)
    | _ => .fail
  | _ => .fail

def peek1 (x : Operand) : R Cell := do
  match ← peek x with
  | (false, [c]) => pure c
  | _ => .fail

def peekInt (x : Operand) : R (IntKind × Int) := do
  let c ← peek1 x
  match c.ct with
  | .int k => pure (k, c.c.int)
  | _ => .fail

def peekBool (x : Operand) : R Bool := do
  let c ← peek1 x
  match c.ct with
  | .bool => pure c.c.bool
  | _ => .fail

abbrev Ws := List (Nat × Slot)

def put (dst : Option Tmp) (sv : SV) (ws : Ws := []) : R Ws :=
  match dst with
  | .none => pure ws
  | some d => do
    let s ← R.slot d
    if ws.any (·.1 == d) then .fail else pure (ws ++ [(d, ⟨sv, ⟨s.v.w + 1, s.v.c⟩⟩)])

def take (x : Operand) : R (Bool × List Cell × Ws) :=
  match x with
  | .const v => match valueSV v with
    | some (.val g cs) => pure (g, cs, [])
    | _ => .fail
  | .tmp t => do
    let s ← R.slot t
    match s.sv with
    | .val g cs =>
      if cs.any Cell.isGone then .fail
      else if cs.all Cell.free then pure (g, cs, [])
      else pure (g, cs, [(t, ⟨.val g (cs.map Cell.leave), ⟨s.v.w, s.v.c + 1⟩⟩)])
    | .al g h off n v => do
      let s ← R.slot h
      if s.v = v then
        match s.sv with
        | .val g' cs =>
          let ys := (cs.drop off).take n
          if ys.any Cell.isGone then .fail
          else if ys.length ≠ n then .fail
          else pure (g, ys, [(h, ⟨.val g' (splice cs off (ys.map Cell.leave)), ⟨s.v.w, s.v.c + 1⟩⟩)])
        | .bx e cs =>
          let ys := (cs.drop off).take n
          if ys.any Cell.isGone then .fail
          else if ys.length ≠ n then .fail
          else pure (g, ys, [(h, ⟨.bx e (splice cs off (ys.map Cell.leave)), ⟨s.v.w, s.v.c + 1⟩⟩)])
        | _ => .fail
      else .fail
    | .gal g off n => do
      let s ← R.slot gh
      match s.sv with
      | .gv cs =>
        let ys := (cs.drop off).take n
        if ys.any Cell.isGone then .fail
        else if ys.length ≠ n then .fail
        else pure (g, ys, [(gh, ⟨.gv (splice cs off (ys.map Cell.leave)), ⟨s.v.w, s.v.c + 1⟩⟩)])
      | _ => .fail
    | _ => .fail
  | _ => .fail

def look (x : Operand) : R SV :=
  match x with
  | .const v => R.opt (valueSV v)
  | .func f => pure (.clo f [])
  | .tmp t => do
    let s ← R.slot t
    match s.sv with
    | .val g cs =>
      if cs.any Cell.isGone then .fail
      else if cs.all Cell.free then pure (.val g (cs.map Cell.share)) else pure (.al g t 0 cs.length s.v)
    | .bx _ _ => pure (.fa t 0 s.v.w)
    | .gbx _ _ _ => pure (.fa t 0 s.v.w)
    | .bld _ _ _ => pure (.fa t 0 s.v.w)
    | .gal g off n => pure (.gal g off n)
    | .al g h off n v => pure (.al g h off n v)
    | .fa h off v => pure (.fa h off v)
    | .ea h off e i j v => pure (.ea h off e i j v)
    | .clo f caps => pure (.clo f caps)
    | .tup vs => if (vs.all fun p => p.2.all Cell.free && !p.2.any Cell.isGone) = true then pure (.tup (vs.map fun p => (p.1, p.2.map Cell.share))) else .fail
    | _ => .fail
  | _ => .fail

/-! ### Addresses -/
inductive Pl where
  | box (h off : Nat)
  | el (h off : Nat) (e : TypeId) (i : Int) (j : Nat)
  | shd (e : TypeId) (cs : List TC)

def place (x : Operand) : R Pl :=
  match x with
  | .tmp t => do
    let s ← R.slot t
    match s.sv with
    | .bx _ _ => pure (.box t 0)
    | .gbx _ _ _ => pure (.box t 0)
    | .fa h off v => do
      let s ← R.slot h
      if s.v.w = v then pure (.box h off) else .fail
    | .ea h off e i j v => do
      let s ← R.slot h
      if s.v = v then pure (.el h off e i j) else .fail
    | .val false [c] => match c.ct with
      | .ptr e => if c.fl == .sh then pure (.shd e c.c.cells) else .fail
      | _ => .fail
    | _ => .fail
  | _ => .fail

def boxAt (h : Nat) : R (TypeId × List Cell × Ver) := do
  let s ← R.slot h
  match s.sv with
  | .bx e cs => pure (e, cs, s.v)
  | _ => .fail

def homeAt (h : Nat) : R (List Cell × (List Cell → Slot)) := do
  let s ← R.slot h
  match s.sv with
  | .bx e cs => pure (cs, fun ds => ⟨.bx e ds, s.v⟩)
  | .val g cs => pure (cs, fun ds => ⟨.val g ds, s.v⟩)
  | .gv cs => pure (cs, fun ds => ⟨.gv ds, s.v⟩)
  | _ => .fail

def cellOf (cs : List Cell) (off : Nat) : R Cell := R.opt (cs[off]?)

def ownElem (c : Cell) : Option TypeId := match c.fl, c.ct with | .own _, .slice e => some e | _, _ => .none
def ownRow (x : Operand) : R (Option (Nat × Nat × TypeId × Ver)) :=
  match x with
  | .tmp t => do
    let s ← R.view t
    match s.sv with
    | .val false [c] => pure ((ownElem c).map fun e => (t, 0, e, s.v))
    | .al false h off 1 v => do
      let cs ← homeCells h off 1 v
      match cs with
      | [c] => pure ((ownElem c).map fun e => (h, off, e, v))
      | _ => pure .none
    | _ => pure .none
  | _ => pure .none
def load (T : Tab) (t : TypeId) (x : Operand) : R SV := do
  let r := T t
  if r.kind.isOther then .fail else
  match ← place x with
  | .box h off => do
    let s ← R.slot h
    match s.sv with
    | .gbx _ o n => do
      let s' ← R.slot gh
      match s'.sv with
      | .gv cs =>
        let ys := (cs.drop (o + off)).take r.cts.length
        if ctsOf ys ≠ r.cts then .fail
        else if n < off + r.cts.length then .fail
        else if ys.any Cell.isGone then .fail
        else if ys.all Cell.free then pure (.val r.kind.agg (ys.map Cell.share))
        else pure (.gal r.kind.agg (o + off) r.cts.length)
      | _ => .fail
    | _ => do
    let (_, cs, v) ← boxAt h
    let ys := (cs.drop off).take r.cts.length
    if ctsOf ys ≠ r.cts then .fail
    else if ys.any Cell.isGone then .fail
    else if ys.all Cell.free then pure (.val r.kind.agg (ys.map Cell.share))
    else pure (.al r.kind.agg h off r.cts.length v)
  | .el h off e i j => do
    let (cs, _) ← homeAt h
    let c ← cellOf cs off
    match c.fl with
    | .own deep =>
      if c.ct ≠ .slice e then .fail
      else if ((T e).cts.drop j).take r.cts.length ≠ r.cts then .fail
      else if deep && anyMem r.cts then .fail
      else pure (.val r.kind.agg (readCells r.cts (row c.c.list i) j))
    | _ => .fail
  | .shd e cs => if (T e).cts ≠ r.cts then .fail else pure (.val r.kind.agg (readCells r.cts cs 0))

def rawRow (cs : List Cell) : List TC := cs.map (·.c)

def store (T : Tab) (t : TypeId) (addr x : Operand) : R Ws := do
  let r := T t
  if r.kind.isOther then .fail else
  if r.cts = [] then .fail else
  let (_, ys, ws) ← take x
  let ys ← R.opt (fitAll r.cts ys)
  match ← place addr with
  | .box h off => do
    if ws.any (·.1 == h) then .fail
    else
      let (e, cs, v) ← boxAt h
      if ctsOf ((cs.drop off).take ys.length) ≠ r.cts then .fail
      else pure (ws ++ [(h, ⟨.bx e (splice cs off ys), ⟨v.w, v.c + 1⟩⟩)])
  | .el h off e i j => do
    if ws.any (·.1 == h) then .fail
    else
      let (cs, mk) ← homeAt h
      let c ← cellOf cs off
      match c.fl with
      | .own deep =>
        if c.ct ≠ .slice e then .fail
        else if ((T e).cts.drop j).take ys.length ≠ r.cts then .fail
        else if deep && !ys.all Cell.deep then .fail
        else
          let xs := c.c.list
          pure (ws ++ [(h, mk (splice cs off [⟨c.ct, c.fl, .l (xs.set i.toNat (splice (row xs i) j (rawRow ys)))⟩]))])
      | _ => .fail
  | .shd _ _ => .fail

def fieldAddr (T : Tab) (s : TypeId) (x : Operand) (f : Nat) : R SV := do
  match (T s).kind with
  | .struct fs => match fs[f]? with
    | some (o, e) =>
      if (T e).cts = [] then .fail else
      match ← place x with
      | .box h off => do
        let sl ← R.slot h
        pure (.fa h (off + o) sl.v.w)
      | .el h off e' i j => do
        let sl ← R.slot h
        pure (.ea h off e' i (j + o) sl.v)
      | .shd e' cs => if e' = s then pure (.val false [⟨.ptr e, .sh, .p ((List.range (T e).cts.length).map fun k => nth cs (o + k))⟩]) else .fail
    | .none => .fail
  | _ => .fail

def indexAddr (T : Tab) (st : TypeId) (x ix : Operand) : R SV := do
  let (_, i) ← peekInt ix
  match (T st).kind, x with
  | .slice e, .tmp t => do
    if (T e).kind.isOther then .fail else
    let s ← R.view t
    match s.sv with
    | .val false [c] =>
      if c.ct ≠ .slice e then .fail else
      match c.fl with
      | .sh => do
        R.guard (0 ≤ i ∧ i < (c.c.list.length : Int))
        pure (.val false [⟨.ptr e, .sh, .p (row c.c.list i)⟩])
      | .own _ => do
        R.guard (0 ≤ i ∧ i < (c.c.list.length : Int))
        pure (.ea t 0 e i 0 s.v)
      | _ => .fail
    | .al false h off 1 v => do
      let cs ← homeCells h off 1 v
      match cs with
      | [c] =>
        if c.ct ≠ .slice e then .fail else
        match c.fl with
        | .own _ => do
          R.guard (0 ≤ i ∧ i < (c.c.list.length : Int))
          pure (.ea h off e i 0 v)
        | _ => .fail
      | _ => .fail
    | _ => .fail
  | _, _ => .fail

/-! ### Plain operations -/
def intOp (op : BinOp) (k : IntKind) (x y : Int) : R Cell :=
  let bits (r : BitVec k.bits → BitVec k.bits → BitVec k.bits) : R Cell := pure ⟨.int k, .sh, .i (k.wrap (r (BitVec.ofInt k.bits x) (BitVec.ofInt k.bits y)).toNat)⟩
  let cmp (p : Bool) : R Cell := pure ⟨.bool, .sh, .b p⟩
  match op with
  | .add => pure ⟨.int k, .sh, .i (k.wrap (x + y))⟩
  | .sub => pure ⟨.int k, .sh, .i (k.wrap (x - y))⟩
  | .mul => pure ⟨.int k, .sh, .i (k.wrap (x * y))⟩
  | .quo => .chk (y ≠ 0) inferInstance (pure ⟨.int k, .sh, .i (k.wrap (x.tdiv y))⟩)
  | .rem => .chk (y ≠ 0) inferInstance (pure ⟨.int k, .sh, .i (x.tmod y)⟩)
  | .and => bits fun a b => a &&& b
  | .or => bits fun a b => a ||| b
  | .xor => bits fun a b => a ^^^ b
  | .andNot => bits fun a b => a &&& ~~~b
  | .eql => cmp (x == y)
  | .neq => cmp (x != y)
  | .lss => cmp (decide (x < y))
  | .leq => cmp (decide (x ≤ y))
  | .gtr => cmp (decide (x > y))
  | .geq => cmp (decide (x ≥ y))
  | _ => .fail

def shiftOp (op : BinOp) (k : IntKind) (x y : Int) : R Cell :=
  match op with
  | .shl => .chk (0 ≤ y) inferInstance (pure ⟨.int k, .sh, .i (k.wrap (x * 2 ^ (min y.toNat k.bits)))⟩)
  | .shr => .chk (0 ≤ y) inferInstance (pure ⟨.int k, .sh, .i (x.fdiv (2 ^ (min y.toNat k.bits)))⟩)
  | _ => .fail

def bytesLess : List UInt8 → List UInt8 → Bool
  | _, [] => false
  | [], _ :: _ => true
  | a :: x, b :: y => a < b || (a == b && bytesLess x y)

def strOp (op : BinOp) (x y : List UInt8) : R Cell :=
  let cmp (p : Bool) : R Cell := pure ⟨.bool, .sh, .b p⟩
  match op with
  | .add => .chk ((x.length + y.length : Nat) ≤ (9223372036854775807 : Int)) inferInstance (pure ⟨.str, .sh, .s (x ++ y)⟩)
  | .eql => cmp (x == y)
  | .neq => cmp (!(x == y))
  | .lss => cmp (bytesLess x y)
  | .leq => cmp (bytesLess x y || x == y)
  | .gtr => cmp (!(bytesLess x y || x == y))
  | .geq => cmp (!(bytesLess x y))
  | _ => .fail

def eqCell (c d : Cell) : Option Bool :=
  match c.ct, d.ct with
  | .int k, .int k' => if k = k' then some (c.c.int == d.c.int) else .none
  | .bool, .bool => some (c.c.bool == d.c.bool)
  | .str, .str => some (c.c.str == d.c.str)
  | _, _ => .none
def eqCells : List Cell → List Cell → Option Bool
  | [], [] => some true
  | c :: cs, d :: ds => (eqCell c d).bind fun p => (eqCells cs ds).map (p && ·)
  | _, _ => .none

def binOp (T : Tab) (op : BinOp) (xType : TypeId) (x y : Operand) : R Cell := do
  let a ← peek x
  let b ← peek y
  match a, b with
  | (false, [c]), (false, [d]) =>
    match c.ct, d.ct with
    | .int k, .int k' =>
      match op with
      | .shl | .shr => shiftOp op k c.c.int d.c.int
      | _ => if k = k' then intOp op k c.c.int d.c.int else .fail
    | .str, .str => strOp op c.c.str d.c.str
    | .bool, .bool => match (T xType).kind, op with
      | .bool, .eql => pure ⟨.bool, .sh, .b (c.c.bool == d.c.bool)⟩
      | .bool, .neq => pure ⟨.bool, .sh, .b (!(c.c.bool == d.c.bool))⟩
      | _, _ => .fail
    | _, _ => .fail
  | (true, cs), (true, ds) =>
    if (T xType).cmp && !(T xType).kind.isOther && (ctsOf cs == (T xType).cts) && (ctsOf ds == (T xType).cts) then
      match op, eqCells cs ds with
      | .eql, some p => pure ⟨.bool, .sh, .b p⟩
      | .neq, some p => pure ⟨.bool, .sh, .b (!p)⟩
      | _, _ => .fail
    else .fail
  | _, _ => .fail

def unOp (op : UnOp) (x : Operand) : R Cell := do
  let c ← peek1 x
  match op, c.ct with
  | .not, .bool => pure ⟨.bool, .sh, .b (!c.c.bool)⟩
  | .neg, .int k => intOp .sub k 0 c.c.int
  | .xor, .int k => intOp .xor k (if k.signed then -1 else k.max) c.c.int
  | _, _ => .fail

def byteOf (c : List TC) : UInt8 := UInt8.ofNat (nth c 0).int.toNat
def bytesRow (l : List UInt8) : List (List TC) := l.map fun x => [.i x.toNat]

def convert (T : Tab) (src dst : TypeId) (x : Operand) : R Cell := do
  let c ← peek1 x
  match c.ct, (T src).kind, (T dst).kind with
  | .int _, .int _, .int k => pure ⟨.int k, .sh, .i (k.wrap c.c.int)⟩
  | .str, .str, .str => pure ⟨.str, .sh, c.c⟩
  | .str, .str, .slice e => match (T e).kind with
    | .int .u8 => do
      R.guard (c.c.str.length ≤ 140737488355328)
      pure ⟨.slice e, .own true, .l (bytesRow c.c.str)⟩
    | _ => .fail
  | .slice e, .slice e', .str => match (T e).kind with
    | .int .u8 => if e = e' then pure ⟨.str, .sh, .s (c.c.list.map byteOf)⟩ else .fail
    | _ => .fail
  | _, _, _ => .fail

def touched (x : Operand) : R (List Nat) :=
  match x with
  | .tmp t => do
    let s ← R.view t
    match s.sv with
    | .al _ h _ _ _ => pure [t, h]
    | _ => pure [t]
  | _ => pure []

def clash (ws : Ws) (rs : List Nat) : Bool := ws.any fun p => rs.contains p.1

def takeParts : List (Nat × Operand) → R (List (Nat × List Cell) × Ws × List Nat)
  | [] => pure ([], [], [])
  | (i, x) :: rest => do
    let (_, ys, ws) ← take x
    let rs ← touched x
    let (ps, ws', rs') ← takeParts rest
    if clash ws rs' || clash ws' rs then .fail else pure ((i, ys) :: ps, ws ++ ws', rs ++ rs')

def fillParts (at_ : Nat → Option (Nat × List CT)) : List Cell → List (Nat × List Cell) → Option (List Cell)
  | cs, [] => some cs
  | cs, (i, ys) :: rest => (at_ i).bind fun (o, cts) => (fitAll cts ys).bind fun zs => if o + zs.length ≤ cs.length then fillParts at_ (splice cs o zs) rest else .none

def shBase : Nat := 1500000
def shz1 (c : Cell) : Cell := c.share
def shz (T : Tab) (t : TypeId) (zs : List Cell) : List Cell := match (T (shBase + t)).kind with | .meth _ => zs.map shz1 | _ => zs
def zerosOf (T : Tab) (t : TypeId) : Option (List Cell) := (zeroCells (T t).cts).map (shz T t)
def build (T : Tab) (t : TypeId) (parts : List (Nat × Operand)) : R (List Cell × Ws) := do
  let (ps, ws, _) ← takeParts parts
  match (T t).kind with
  | .struct fs => do
    let zs ← R.opt (zerosOf T t)
    let cs ← R.opt (fillParts (fun i => (fs[i]?).map fun (o, e) => (o, (T e).cts)) zs ps)
    pure (cs, ws)
  | _ => .fail

def chunk {α : Type} (size : Nat) : Nat → List α → List (List α)
  | 0, _ => []
  | n + 1, l => l.take size :: chunk size n (l.drop size)

def buildSlice (T : Tab) (t : TypeId) (len : Nat) (parts : List (Nat × Operand)) : R (Cell × Ws) := do
  let (ps, ws, _) ← takeParts parts
  match (T t).kind with
  | .slice e => do
    if (T e).kind.isOther then .fail else
    let cts := (T e).cts
    let zs ← R.opt (zeroCells cts)
    let cs ← R.opt (fillParts (fun i => some (i * cts.length, cts)) (List.replicate len zs).flatten ps)
    if len * cts.length ≤ 16777216 ∧ cts ≠ [] then pure (⟨.slice e, .own (cs.all Cell.deep), .l (chunk cts.length len (rawRow cs))⟩, ws) else .fail
  | _ => .fail

def makeSlice (T : Tab) (t : TypeId) (l c : Operand) : R Cell := do
  let (_, n) ← peekInt l
  let (_, m) ← peekInt c
  match (T t).kind with
  | .slice e => do
    let r := T e
    if r.kind.isOther then .fail else
    let zs ← R.opt (zeroCells r.cts)
    R.guard (0 ≤ n ∧ n ≤ m ∧ m * r.bytes ≤ 140737488355328 ∧ m ≤ 140737488355328)
    if r.cts ≠ [] then pure ⟨.slice e, .own true, .l (List.replicate n.toNat (rawRow zs))⟩ else .fail
  | _ => .fail

def bound (o : Option Operand) (d : Int) : R Int :=
  match o with
  | some x => do
    let (_, i) ← peekInt x
    pure i
  | .none => pure d

def sliceOp (T : Tab) (t : TypeId) (x : Operand) (lo hi : Option Operand) : R Cell := do
  let c ← peek1 x
  let l ← bound lo 0
  match c.ct, (T t).kind with
  | .str, .str => do
    let h ← bound hi (c.c.str.length : Int)
    R.guard (0 ≤ l ∧ l ≤ h ∧ h ≤ (c.c.str.length : Int))
    pure ⟨.str, .sh, .s ((c.c.str.take h.toNat).drop l.toNat)⟩
  | .slice e, .slice e' => do
    if c.fl = .sh ∧ e = e' ∧ (T e).kind.isOther = false then
      let h ← bound hi (c.c.list.length : Int)
      R.guard (0 ≤ l ∧ l ≤ h ∧ h ≤ (c.c.list.length : Int))
      pure ⟨.slice e, .sh, .l ((c.c.list.take h.toNat).drop l.toNat)⟩
    else .fail
  | _, _ => .fail

def index (T : Tab) (t : TypeId) (x ix : Operand) : R Cell := do
  let c ← peek1 x
  let (_, i) ← peekInt ix
  match c.ct, (T t).kind with
  | .str, .str => do
    R.guard (0 ≤ i ∧ i < (c.c.str.length : Int))
    pure ⟨.int .u8, .sh, .i ((c.c.str.getD i.toNat 0).toNat)⟩
  | _, _ => .fail

def lenOp (T : Tab) (t : TypeId) (x : Operand) : R Cell := do
  let c ← peek1 x
  match c.ct, (T t).kind with
  | .str, .str => pure ⟨.int .i64, .sh, .i (c.c.str.length : Int)⟩
  | .slice _, .slice _ => pure ⟨.int .i64, .sh, .i (c.c.list.length : Int)⟩
  | .nils, .slice _ => pure ⟨.int .i64, .sh, .i 0⟩
  | _, _ => .fail

def minMax (max : Bool) (xs : List Operand) : R Cell := do
  match xs with
  | [x, y] => do
    let (k, a) ← peekInt x
    let (k', b) ← peekInt y
    if k = k' then pure ⟨.int k, .sh, .i (if max then (if a < b then b else a) else (if b < a then b else a))⟩ else .fail
  | _ => .fail

def roomFor (r : TyR) (n : Nat) : Prop := (n : Int) * r.bytes ≤ 140737488355328 ∧ (n : Int) ≤ 140737488355328
instance (r : TyR) (n : Nat) : Decidable (roomFor r n) := inferInstanceAs (Decidable (_ ∧ _))

def appendOp (T : Tab) (s x : Operand) (sType xType : TypeId) : R (Cell × Ws) := do
  let (g, ss, ws) ← take s
  let rs ← touched s
  let rx ← touched x
  if clash ws rx || g then .fail else
  match (T sType).kind with
  | .slice e => do
    let _ ← R.opt (zeroCells (T e).cts)
    if (T e).kind.isOther || (T e).cts.isEmpty then .fail else
    match fitAll [.slice e] ss with
    | some [c] => match c.fl with
      | .own deep =>
        if deep && anyMem (T e).cts then do
          let (g', xs, ws') ← take x
          let d ← R.opt xs.head?
          if d.ct = .slice e ∧ d.fl = .own true ∧ sType = xType ∧ clash ws' rs = false ∧ xs.length = 1 ∧ g' = false then do
            R.guard (roomFor (T e) (c.c.list ++ d.c.list).length)
            pure (⟨.slice e, .own true, .l (c.c.list ++ d.c.list)⟩, ws ++ ws')
          else .fail
        else do
          let d ← peek1 x
          match d.ct, (T e).kind, (T xType).kind with
          | .slice e', _, .slice _ =>
            if e' = e ∧ sType = xType ∧ (anyMem (T e).cts && d.fl == .own true) = false then do
              R.guard (roomFor (T e) (c.c.list ++ d.c.list).length)
              pure (⟨.slice e, .own deep, .l (c.c.list ++ d.c.list)⟩, ws)
            else .fail
          | .str, .int .u8, .str => do
            R.guard (roomFor (T e) (c.c.list ++ bytesRow d.c.str).length)
            pure (⟨.slice e, .own deep, .l (c.c.list ++ bytesRow d.c.str)⟩, ws)
          | _, _, _ => .fail
      | _ => .fail
    | _ => .fail
  | _ => .fail

/-! ### Calls -/
def rawArg (g : Bool) (cs : List Cell) : Arg := (g, cs.map fun c => (c.ct, c.c))
def boxPtr (h off : Nat) (T : Tab) (t : TypeId) : R (List TC) := do
  let (_, cs, _) ← boxAt h
  let ys := (cs.drop off).take (T t).cts.length
  if ctsOf ys ≠ (T t).cts then .fail else if ys.any Cell.isGone then .fail else pure (rawRow ys)

def capsOf (T : Tab) : List (Nat × Nat) → R (List (TypeId × List TC))
  | [] => pure []
  | (h, v) :: rest => do
    let s ← R.slot h
    match s.sv with
    | .bx e cs =>
      if s.v.w = v ∧ cs.any Cell.isGone = false then
        let r ← capsOf T rest
        pure ((e, rawRow cs) :: r)
      else .fail
    | _ => .fail

def lend (T : Tab) (x : Operand) (t : TypeId) : R (Arg × Bool) :=
  match x with
  | .func f => pure ((false, [(.func, .f f [])]), true)
  | .const _ => do
    let (g, cs) ← peek x
    let ds ← R.opt (fitAll (T t).cts cs)
    pure (rawArg g ds, true)
  | .tmp n => do
    let s ← R.view n
    match s.sv with
    | .val _ _ | .al _ _ _ _ _ => do
      let (g, cs) ← peek x
      let ds ← R.opt (fitAll (T t).cts cs)
      pure (rawArg g ds, cs.all Cell.free)
    | .bx _ _ => match (T t).kind with
      | .ptr e => do
        let cs ← boxPtr n 0 T e
        pure ((false, [(.ptr e, .p cs)]), false)
      | _ => .fail
    | .fa h off v => match (T t).kind with
      | .ptr e => do
        let s ← R.slot h
        if s.v.w = v then
          let cs ← boxPtr h off T e
          pure ((false, [(.ptr e, .p cs)]), false)
        else .fail
      | _ => .fail
    | .clo f caps => do
      let cs ← capsOf T caps
      pure ((false, [(.func, .f f cs)]), caps.isEmpty)
    | _ => .fail
  | _ => .fail

def lendAll (T : Tab) : List (Operand × TypeId) → R (List Arg × Bool)
  | [] => pure ([], true)
  | (x, t) :: rest => do
    let (a, s) ← lend T x t
    let (as, s') ← lendAll T rest
    pure (a :: as, s && s')

def resSV : Res → SV
  | [(g, cs)] => .val g cs
  | vs => .tup vs

def resOwn (r : Res) : Bool := r.all fun (_, cs) => cs.all Cell.deep

def capArg (c : TypeId × List TC) : Arg := (false, [(.ptr c.1, .p c.2)])

def calleeOf (T : Tab) (f : Operand) : R (FuncId × List (TypeId × List TC) × Bool) :=
  match f with
  | .func g => pure (g, [], true)
  | .tmp t => do
    let s ← R.slot t
    match s.sv with
    | .clo g caps => do
      let cs ← capsOf T caps
      pure (g, cs, caps.isEmpty)
    | .val false [d] => match d.ct, d.c with
      | .func, .f g cs => if d.fl = .sh then pure (g, cs, true) else .fail
      | _, _ => .fail
    | _ => .fail
  | _ => .fail

def doCall (T : Tab) (c : Call) : R SV :=
  match c.callee with
  | .value f => do
    let (g, caps, sh0) ← calleeOf T f
    let (as, sh) ← lendAll T (c.args.toList.zip c.argTypes.toList)
    if c.args.size = c.argTypes.size then
      .call g (as ++ caps.map capArg) fun r => if ((sh && sh0) || resOwn r) = true then pure (resSV r) else .fail
    else .fail
  | _ => .fail

def fnBase : Nat := 1000000
def methOf (T : Tab) (f : Operand) : Option (FuncId × Nat) :=
  match f with
  | .func g => match (T (fnBase + g)).kind with
    | .meth k => some (g, k)
    | _ => .none
  | _ => .none

def lendOwn (x : Operand) : R (Bool × List Cell × Nat × (List Cell → Slot)) :=
  match x with
  | .tmp n => do
    let s ← R.view n
    match s.sv with
    | .val g cs => pure (g, cs, n, fun ds => ⟨.val g ds, ⟨s.v.w, s.v.c + 1⟩⟩)
    | .al g h off k v => do
      let ys ← homeCells h off k v
      let s' ← R.slot h
      match s'.sv with
      | .val g' cs => pure (g, ys, h, fun ds => ⟨.val g' (splice cs off ds), ⟨s'.v.w, s'.v.c + 1⟩⟩)
      | .bx e cs => pure (g, ys, h, fun ds => ⟨.bx e (splice cs off ds), ⟨s'.v.w, s'.v.c + 1⟩⟩)
      | .gv cs => pure (g, ys, h, fun ds => ⟨.gv (splice cs off ds), ⟨s'.v.w, s'.v.c + 1⟩⟩)
      | _ => .fail
    | _ => .fail
  | _ => .fail

def mark : Arg := (false, [])
def isMark : List Arg → Bool
  | (false, []) :: _ => true
  | _ => false

def ownCells (l : List (CT × TC)) : List Cell := l.map fun p => ⟨p.1, bif p.1.mem then .own true else .sh, p.2⟩

def cloOff (h : Nat) (x : Operand) : R Bool :=
  match x with
  | .tmp n => do
    let s ← R.slot n
    match s.sv with
    | .clo _ caps => pure (caps.all fun p => !Nat.beq p.1 h)
    | .bx _ _ => pure (!Nat.beq n h)
    | .fa h' _ _ => pure (!Nat.beq h' h)
    | _ => pure false
  | _ => pure false
def lendW (T : Tab) (h : Nat) : List (Operand × TypeId) → R (List Arg × Bool)
  | [] => pure ([], true)
  | (x, t) :: rest => do
    let (a, s) ← lend T x t
    let q ← (match s with | true => pure true | false => cloOff h x : R Bool)
    let (as, s') ← lendW T h rest
    pure (a :: as, q && s')

def writeCall (T : Tab) (g : FuncId) (c : Call) (dst : Option Tmp) : R Ws :=
  match c.args.toList.zip c.argTypes.toList with
  | (x, t) :: rest => do
    let (ag, cs, h, mk) ← lendOwn x
    let (as, sh) ← lendW T h rest
    if c.args.size = c.argTypes.size ∧ sh = true ∧ cs.all Cell.deep = true ∧ cs.any Cell.isGone = false ∧ ctsOf cs = (T t).cts ∧ (ag = false → cs.length = 1) then
      .call g (mark :: rawArg ag cs :: as) fun r => match r with
        | (_, ds) :: r' =>
          if ctsOf ds = ctsOf cs ∧ (ds.all fun c => c.deep || c.isGone) = true ∧ resOwn r' = true then put dst (resSV r') [(h, mk ds)] else .fail
        | [] => .fail
    else .fail
  | [] => .fail

def fits (n : Nat) : Prop := (n : Int) ≤ 140737488355328
noncomputable instance (n : Nat) : Decidable (fits n) := Classical.propDecidable _

def bldCall (_k : Nat) (_c : Call) (_dst : Option Tmp) : R Ws := .fail
def rowFlat (T : Tab) (e : TypeId) : Prop := anyMem (T e).cts = false ∧ (T e).cts ≠ [] ∧ (T e).kind.isOther = false
instance (T : Tab) (e : TypeId) : Decidable (rowFlat T e) := by unfold rowFlat; infer_instance
def subOp (_T : Tab) (_t : TypeId) (_r : Nat × Nat × TypeId × Ver) (_lo _hi : Option Operand) (_dst : Option Tmp) : R Ws := .fail
def headOf (x : Operand) : R (Option (Nat × Nat × TypeId × Int × Int × Ver)) :=
  match x with
  | .tmp t => do
    let s ← R.slot t
    match s.sv with
    | .sub h off e lo hi v => pure (some (h, off, e, lo, hi, v))
    | _ => pure .none
  | _ => pure .none
def takeHead (_T : Tab) (_r : Nat × Nat × TypeId × Int × Int × Ver) (_dst : Option Tmp) : R Ws := .fail
def clearOp (_T : Tab) (_t : TypeId) (_x : Operand) (_dst : Option Tmp) : R Ws := .fail
def copyOp (_T : Tab) (_t _u : TypeId) (_x _y : Operand) (_dst : Option Tmp) : R Ws := .fail
def ghostPart (x : Operand) : R (Option (Nat × Nat)) :=
  match x with
  | .tmp n => do
    let s ← R.slot n
    match s.sv with
    | .gal true off k => pure (some (off, k))
    | _ => pure .none
  | _ => pure .none

def tupOwn (x : Operand) : R (Option (Nat × List (Bool × List Cell) × Ver)) :=
  match x with
  | .tmp t => do
    let s ← R.slot t
    match s.sv with
    | .tup vs => if ((vs.all fun p => p.2.all Cell.free) || vs.any fun p => p.2.any Cell.isGone) = true then pure .none else pure (some (t, vs, s.v))
    | _ => pure .none
  | _ => pure .none

def capHomes : List Operand → R (List (Nat × Nat))
  | [] => pure []
  | .tmp t :: rest => do
    let s ← R.slot t
    match s.sv with
    | .bx _ _ => do
      let r ← capHomes rest
      pure ((t, s.v.w) :: r)
    | .fa h off v => do
      let sh ← R.slot h
      if off = 0 ∧ sh.v.w = v then
        let r ← capHomes rest
        pure ((h, v) :: r)
      else .fail
    | _ => .fail
  | _ => .fail

noncomputable def opR (T : Tab) (o : Oper) : R Ws :=
  let cell (m : R Cell) : R Ws := do
    let c ← m
    put o.dst (.val false [c])
  match o.op with
  | .move x => do
    match ← tupOwn x with
    | some (t, vs, v) => put o.dst (.tup vs) [(t, ⟨.tup (vs.map fun p => (p.1, p.2.map Cell.leave)), ⟨v.w, v.c + 1⟩⟩)]
    | .none => put o.dst (← look x)
  | .assign x =>
    match x with
    | .tmp _ | .const _ => do
      match ← headOf x with
      | some r => takeHead T r o.dst
      | .none => do
      let (g, cs, ws) ← take x
      put o.dst (.val g cs) ws
    | _ => .fail
  | .pick c a b => do
    let p ← peekBool c
    .br p fun q => do
      let d ← peek1 (if q then a else b)
      if d.free then put o.dst (.val false [d.share]) else .fail
  | .alloc t =>
    match (T t).kind with
    | .bld e => put o.dst (.bld t e [])
    | _ => do
    if (T t).kind.isOther then .fail else
    let cs ← R.opt (zeroCells (T t).cts)
    put o.dst (.bx t cs)
  | .box t x => do
    if (T t).kind.isOther then .fail else
    match ← ghostPart x with
    | some (off, n) => do
      let s ← R.slot gh
      match s.sv with
      | .gv cs => if ctsOf ((cs.drop off).take n) = (T t).cts ∧ ((cs.drop off).take n).length = n then put o.dst (.gbx t off n) else .fail
      | _ => .fail
    | .none => do
    let (_, cs, ws) ← take x
    let cs ← R.opt (fitAll (T t).cts cs)
    put o.dst (.bx t cs) ws
  | .build t ps => do
    let (cs, ws) ← build T t ps.toList
    put o.dst (.val true cs) ws
  | .buildSlice t n ps => do
    let (c, ws) ← buildSlice T t n ps.toList
    put o.dst (.val false [c]) ws
  | .load t x => do put o.dst (← load T t x)
  | .store t a x => match o.dst with
    | .none => store T t a x
    | some _ => .fail
  | .nilCheck x => do
    let _ ← place x
    put o.dst (← look x)
  | .binOp op t x y _ => cell (binOp T op t x y)
  | .unOp op _ x => cell (unOp op x)
  | .convert s d x => cell (convert T s d x)
  | .makeFunc fn first caps => match fn with
    | .func f => if first.toList.isEmpty then do
        let cs ← capHomes caps.toList
        put o.dst (.clo f cs)
      else .fail
    | _ => .fail
  | .makeSlice t l c => cell (makeSlice T t l c)
  | .slice t x lo hi .none => do
    match ← ownRow x with
    | some r => subOp T t r lo hi o.dst
    | .none => cell (sliceOp T t x lo hi)
  | .fieldAddr s x f => do put o.dst (← fieldAddr T s x f)
  | .indexAddr t x ix => do put o.dst (← indexAddr T t x ix)
  | .index t x ix => cell (index T t x ix)
  | .extract x i =>
    match x with
    | .tmp t => do
      let s ← R.slot t
      match s.sv with
      | .tup vs => do
        let (g, cs) ← R.opt (vs[i]?)
        if cs.any Cell.isGone then .fail
        else if cs.all Cell.free then put o.dst (.val g (cs.map Cell.share))
        else put o.dst (.val g cs) [(t, ⟨.tup (vs.set i (g, cs.map Cell.leave)), ⟨s.v.w, s.v.c + 1⟩⟩)]
      | _ => .fail
    | _ => .fail
  | .call c => match c.callee with
    | .builtin .len => match c.args.toList, c.argTypes.toList with
      | [x], [t] => cell (lenOp T t x)
      | _, _ => .fail
    | .builtin .max => cell (minMax true c.args.toList)
    | .builtin .min => cell (minMax false c.args.toList)
    | .builtin .append => match c.args.toList, c.argTypes.toList with
      | [s, x], [t, u] => do
        let (d, ws) ← appendOp T s x t u
        put o.dst (.val false [d]) ws
      | _, _ => .fail
    | .builtin .clear => match c.args.toList, c.argTypes.toList with
      | [x], [t] => clearOp T t x o.dst
      | _, _ => .fail
    | .builtin .copy => match c.args.toList, c.argTypes.toList with
      | [x, y], [t, u] => copyOp T t u x y o.dst
      | _, _ => .fail
    | .value f => match methOf T f with
      | .none => do put o.dst (← doCall T c)
      | some (g, k) => match k with
        | 0 => writeCall T g c o.dst
        | k => bldCall k c o.dst
    | _ => .fail
  | _ => .fail

/-! ### Regions -/
def St.setAll (σ : St) : Ws → St
  | [] => σ
  | (n, s) :: ws => (σ.set n s).setAll ws

def forceN {α : Type} (n : Nat) (k : Nat → α) : α := Nat.rec (k 0) (fun m _ => k (m + 1)) n
def forceL {α : Type} (l : List Nat) (k : List Nat → α) : α := match l with
  | [] => k []
  | n :: l => forceN n fun n => forceL l fun l => k (n :: l)
theorem forceN_eq {α : Type} (n : Nat) (k : Nat → α) : forceN n k = k n := by cases n <;> rfl
theorem forceL_eq {α : Type} : ∀ (l : List Nat) (k : List Nat → α), forceL l k = k l
  | [], _ => rfl
  | n :: l, k => by rw [forceL, forceN_eq, forceL_eq]

structure Foot where
  rs : List Nat
  ws : List Nat

section
variable {ρ : Type} (T : Tab) (nt : Nat) (D : FuncId → List Arg → Option (Bool × Res))

def dstOk (o : Oper) : Bool := match o.dst with | some d => Nat.blt d nt | .none => true
def dstOf (ops : List Oper) (g : Nat) : Option Tmp := (ops[g]?).bind (·.dst)

def skipR (o : Oper) : R Ws :=
  match o.dst with
  | .none => pure []
  | some e => do
    let s ← R.slot e
    pure [(e, ⟨.und, ⟨s.v.w + 1, s.v.c⟩⟩)]

noncomputable def opG (all : List Oper) (o : Oper) : R (Ws × Ws) :=
  match o.guard with
  | .none => do
    let ws ← opR T o
    pure (ws, [])
  | some (g, want) =>
    match dstOf all g with
    | .none => .fail
    | some d => do
      let s ← R.slot d
      match s.sv with
      | .val false [⟨.bool, fl, .b p⟩] =>
        if fl = .gone then .fail else
        .br p fun q => do
          let ws ← (ite (q = want) (opR T o) (skipR o) : R Ws)
          pure (ws, [(d, ⟨.val false [⟨.bool, fl, .b q⟩], s.v⟩)])
      | .und => do
        let ws ← skipR o
        pure (ws, [])
      | _ => .fail

noncomputable def runOps (all : List Oper) : List Oper → St → List Foot → (St → List Foot → Option ρ) → Option ρ
  | [], σ, fs, K => K σ fs
  | o :: rest, σ, fs, K =>
    if dstOk nt o = false then .none else
    (opG T all o).exec D σ [] fun p rs => forceL rs fun rs => forceL (p.1.map (·.1)) fun ws => runOps all rest ((σ.setAll p.2).setAll p.1) (⟨rs, ws⟩ :: fs) K

def Foot.clash (a b : Foot) : Bool := a.ws.any (fun n => b.rs.contains n || b.ws.contains n) || b.ws.any (fun n => a.rs.contains n)

def befores : List Oper → Nat → List (List Nat) → List (List Nat)
  | [], _, acc => acc.reverse
  | o :: rest, i, acc =>
    let es := o.after.toList.filter (Region.binds .any ·)
    let s := es.flatMap fun e => e.on :: (acc.reverse.getD e.on [])
    befores rest (i + 1) (s :: acc)

def backward (ops : List Oper) : Bool := ops.zipIdx.all fun (o, j) => o.after.toList.all fun e => !Region.binds .any e || Nat.blt e.on j

def ordered (ops : List Oper) (fs : List Foot) : Bool :=
  let bs := befores ops 0 []
  backward ops && (List.range ops.length).all fun j => (List.range j).all fun i =>
    !((fs.getD i ⟨[], []⟩).clash (fs.getD j ⟨[], []⟩)) || (bs.getD j []).contains i

/-! ### A nested row of the call's own that is handed to be written -/
structure Nest where
  d : Nat
  h : Nat
  off : Nat
  e : TypeId
  i : Int
  j : Nat
  ct : CT

def nestCell (T : Tab) (t : TypeId) (q : CT → Nest) (c : Cell) : R (Option Nest) :=
  match (T t).cts with
  | [ct] => if c.fl = .own true ∧ c.ct = .slice (q ct).e ∧ ct.mem = true ∧ ((T (q ct).e).cts.drop (q ct).j).take 1 = [ct] ∧ (T t).kind.isOther = false ∧ (T t).kind.agg = false ∧ (q ct).h ≠ (q ct).d then pure (some (q ct)) else pure .none
  | _ => pure .none
def nestOf (T : Tab) (o : Oper) : R (Option Nest) :=
  match o.op with
  | .load t (.tmp y) => match o.guard, o.dst with
    | .none, some d => do
      let s ← R.slot y
      match s.sv with
      | .ea h off e i j v => do
        let s' ← R.slot h
        if s'.v = v then
          match s'.sv.home with
          | some cs => match cs[off]? with
            | some c => nestCell T t (fun ct => ⟨d, h, off, e, i, j, ct⟩) c
            | .none => pure .none
          | .none => pure .none
        else pure .none
      | _ => pure .none
    | _, _ => pure .none
  | _ => pure .none
def nestMove (q : Nest) (o : Oper) : R Ws :=
  match o.op, o.guard, o.dst with
  | .move (.tmp y), .none, some z => do
    let s ← R.slot y
    match s.sv with
    | .val g cs => if cs.any Cell.isGone = false ∧ cs.all Cell.free = true ∧ z ≠ q.d ∧ z ≠ q.h then put (some z) (.val g (cs.map Cell.share)) else .fail
    | _ => .fail
  | _, _, _ => .fail
def nestCall (T : Tab) (q : Nest) (g : FuncId) (c : Call) (dst : Option Tmp) : R Ws :=
  match c.args.toList.zip c.argTypes.toList with
  | (.tmp n, t) :: rest => do
    let s ← R.slot q.h
    let (cs, mk) ← homeAt q.h
    let cl ← cellOf cs q.off
    let (as, sh) ← lendW T q.h rest
    if n = q.d ∧ c.args.size = c.argTypes.size ∧ sh = true ∧ cl.fl = .own true ∧ cl.ct = .slice q.e then
      .call g (mark :: (false, [(q.ct, normTC q.ct (nth (row cl.c.list q.i) q.j))]) :: as) fun r => match r with
        | (_, [d]) :: r' =>
          if d.ct = q.ct ∧ d.fl = .own true ∧ resOwn r' = true then
            put dst (resSV r') [(q.h, ⟨(mk (splice cs q.off [⟨cl.ct, cl.fl, .l (cl.c.list.set q.i.toNat (splice (row cl.c.list q.i) q.j (rawRow [d])))⟩])).sv, ⟨s.v.w, s.v.c + 1⟩⟩)]
          else .fail
        | _ => .fail
    else .fail
  | _ => .fail
def nestR (T : Tab) (q : Nest) (o : Oper) : R (Ws × Bool) :=
  match o.op with
  | .call c => match o.guard, c.callee with
    | .none, .value f => match methOf T f with
      | some (g, 0) => do
        let ws ← nestCall T q g c o.dst
        pure (ws, true)
      | _ => .fail
    | _, _ => .fail
  | _ => do
    let ws ← nestMove q o
    pure (ws, false)
noncomputable def runOpsN (all : List Oper) : List Oper → Option Nest → St → (St → Option ρ) → Option ρ
  | [], _, σ, K => K σ
  | o :: rest, .none, σ, K =>
    if dstOk nt o = false then .none else
    (nestOf T o).exec D σ [] fun q _ => match q with
      | .none => (opG T all o).exec D σ [] fun p _ => runOpsN all rest .none ((σ.setAll p.2).setAll p.1) K
      | some q => runOpsN all rest (some q) (σ.set q.d ⟨.dead, ⟨(σ q.d).v.w + 1, (σ q.d).v.c⟩⟩) K
  | o :: rest, some q, σ, K =>
    if dstOk nt o = false then .none else
    (nestR T q o).exec D σ [] fun p _ => runOpsN all rest (bif p.2 then .none else some q) (σ.setAll p.1) K

noncomputable def runRegion (ops : List Oper) (draw : Bool) (σ : St) (K : St → Option ρ) : Option ρ :=
  match draw with
  | true => runOps T nt D ops ops σ [] fun σ' fs => if ordered ops fs.reverse then K σ' else .none
  | false => runOpsN T nt D ops ops .none σ K
end

/-! ### Code -/
inductive Ex where
  | normal | exit (id : Nat) | ret
  deriving DecidableEq

inductive Hint where
  | any
  | ownSlice (e : TypeId)
  | alias

def cleanSlot (vs : Nat → Ver) (h : Hint) (s : Slot) : Slot :=
  match h, s.sv with
  | .alias, .al g hh off n v => if vs hh = v then ⟨.al g hh off n ⟨0, 0⟩, ⟨0, 0⟩⟩ else .none
  | .ownSlice e, .val false [c] => if c.isGone then .none else match fit (.slice e) c with
    | some d => ⟨.val false [d], ⟨0, 0⟩⟩
    | .none => .none
  | _, .val g cs => ⟨.val g cs, ⟨0, 0⟩⟩
  | _, .bx e cs => ⟨.bx e cs, ⟨0, 0⟩⟩
  | _, .tup vs => ⟨.tup vs, ⟨0, 0⟩⟩
  | _, .clo f [] => ⟨.clo f [], ⟨0, 0⟩⟩
  | _, .gv cs => ⟨.gv cs, ⟨0, 0⟩⟩
  | _, .gal g off k => ⟨.gal g off k, ⟨0, 0⟩⟩
  | _, .gbx e off k => ⟨.gbx e off k, ⟨0, 0⟩⟩
  | _, .bld t e l => ⟨.bld t e l, ⟨0, 0⟩⟩
  | _, _ => .none

abbrev Live := List (Nat × Hint)
def pack (live : Live) (σ : St) : List Slot := live.map fun (n, h) => cleanSlot (fun m => (σ m).v) h (σ n)
def unpack : Live → List Slot → St
  | (n, _) :: live, s :: ss => (unpack live ss).set n s
  | _, _ => fun _ => .none

def condOf (σ : St) (x : Operand) : Option Bool :=
  match x with
  | .const (.bool b) => some b
  | .tmp t => match (σ t).sv with
    | .val false [c] => if c.ct = .bool ∧ c.isGone = false then some c.c.bool else .none
    | _ => .none
  | _ => .none

def rounds {σ ρ : Type} (body : σ → (Ex → σ → Option ρ) → Option ρ) (K : Ex → σ → Option ρ) : Nat → σ → Option ρ
  | 0, _ => .none
  | m + 1, s => body s fun e s' => match e with
    | .normal => rounds body K m s'
    | e => K e s'

def firstRegion : Code → Option Nat
  | .region id _ _ => some id
  | .seq a b => (firstRegion a).orElse fun _ => firstRegion b
  | .cond _ a b => (firstRegion a).orElse fun _ => firstRegion b
  | .block _ c => firstRegion c
  | .loop c => firstRegion c
  | .scope c => firstRegion c
  | _ => .none

def argSlot (a : Arg) : Slot := ⟨.val a.1 (a.2.map fun (ct, c) => ⟨ct, .sh, c⟩), ⟨0, 0⟩⟩
def argsSt (as : List Arg) : St := fun n => match as[n]? with | some a => argSlot a | .none => .none

def argsW (a0 : Arg) (as : List Arg) : St := fun n => bif Nat.beq n gh then ⟨.gv (ownCells a0.2), ⟨0, 0⟩⟩ else match n with
  | 0 => ⟨.gal a0.1 0 a0.2.length, ⟨0, 0⟩⟩
  | n + 1 => match as[n]? with | some a => argSlot a | .none => .none

def argsO (a0 : Arg) (as : List Arg) : St := ((argsW a0 as).set gh ⟨.gv ((ownCells a0.2).map Cell.leave), ⟨0, 1⟩⟩).set 0 ⟨.val a0.1 (ownCells a0.2), ⟨0, 1⟩⟩
def argsX (ow : Bool) (a0 : Arg) (as : List Arg) : St := bif ow then argsO a0 as else argsW a0 as

def resultOf (T : Tab) (σ : St) : ResultVar → Option (Bool × List Cell)
  | .tmp t => match (σ t).sv with
    | .val g cs => if cs.any Cell.isGone then .none else some (g, cs)
    | _ => .none
  | .cell p t => match (σ p).sv with
    | .bx _ cs => if cs.any Cell.isGone then .none else if ctsOf cs = (T t).cts ∧ (T t).kind.isOther = false then some ((T t).kind.agg, cs) else .none
    | _ => .none
def slotOf : ResultVar → Nat
  | .tmp t => t
  | .cell p _ => p
def distinct : List Nat → Bool
  | [] => true
  | n :: l => !l.contains n && distinct l
def Cell.plain (c : Cell) : Cell := bif c.ct.mem then c else ⟨c.ct, .sh, c.c⟩
def fitRes (T : Tab) : List TypeId → Res → Option Res
  | [], [] => some []
  | t :: ts, (g, cs) :: r => if (T t).kind.isOther = true then (fitRes T ts r).map ((g, cs) :: ·) else (fitAll (T t).cts cs).bind fun ds => (fitRes T ts r).map ((g, ds.map Cell.plain) :: ·)
  | _, _ => .none
def resultsOf (T : Tab) (σ : St) (rs : List ResultVar) : Option Res := if distinct (rs.map slotOf) = true then rs.mapM (resultOf T σ) else .none

end Go.Proofs.Ytabdjbkbfilhkaa.V
