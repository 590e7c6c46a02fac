/- Operations, part 5: building, fields and elements, slices, texts. -/
import GoSem.Core.Lib
import GoSem.Core.Utf8
import Derived.WalkKit
import Derived.Maps.AppendAt
import Derived.ChangeKeysEq
import Derived.Great.BuildSlice
import Derived.Laws.Tables
import Derived.Great.FillDense
set_option linter.unusedSimpArgs false
set_option linter.unusedVariables false
set_option linter.unusedSectionVars false
namespace Go.Proofs.YtfmhnfimkpffnaaGreatDoor.M2
inductive U where
  | dead
  | bool (b : Bool)
  | int (k : IntKind) (n : Int)
  | str (s : List UInt8)
  | nilI
  | nilF
  | nils
  | nilp
  | nilm
  | iface (t : Nat) (u : U)
  | agg (cs : List U)
  | tup (vs : List U)
  | sl (perm : Bool) (xs : List (List U))
  | fp (cs : List U)
  | own (id n : Nat)
  | bp (id off : Nat)
  | rp (id n i off : Nat)
  | bs (id off n es : Nat)
  | mp (id : Nat)
  | it (id : Nat)
  | fn (f : Nat) (caps : List U)
  deriving Inhabited
inductive Ob where
  | box (cs : List U)
  | row (tag es : Nat) (keep : Bool) (xs : List (List U))
  | frow (xs : List (List U))
  | map (es : List (U × U))
  | iter (s : List UInt8) (pos : Nat)
  | hole
  deriving Inhabited
def Ob.real : Ob → Bool
  | .hole => false
  | _ => true
inductive Sh where
  | tb
  | ti
  | ts
  | tf
  | tst (fs : List (Nat × Sh))
  | tarr (n size : Nat) (e : Sh)
  | tifc (alts : List (Nat × Sh))
  deriving Inhabited
inductive A where
  | t (n : Nat)
  | k (u : U)
  deriving Inhabited
inductive I where
  | mov (x : A)
  | ownnil (tag es : Nat) (keep : Bool)
  | pick (c a b : A)
  | alloc (z : List U)
  | allocOwn (z : List U) (owns : List (Nat × Nat × Nat × Bool))     -- cells that are nil slices, made rows: cell, tag, es, keep
  | box (x : A)
  | build (z : List U) (parts : List (Nat × Nat × A))     -- where, how many cells, what
  | lit (tag es : Nat) (keep : Bool) (z : List U) (n : Nat) (parts : List (Nat × A))
  | load (agg : Bool) (n : Nat) (a : A)
  | store (n : Nat) (a x : A)
  | bin (op : BinOp) (x y : A)
  | eq (neg : Bool) (sh : Sh) (x y : A)
  | un (op : UnOp) (x : A)
  | convI (k : IntKind) (x : A)
  | convS (x : A)
  | toStr (x : A)
  | toBytes (tag : Nat) (x : A)
  | iface (t : Nat) (x : A)
  | mkfn (f : Nat) (caps : List A)
  | mkmap
  | lookup (ok : Bool) (sh : Sh) (z : U) (m k : A)
  | mapset (sh : Sh) (m k v : A)
  | mkslice (tag es bytes : Nat) (keep : Bool) (z : List U) (len : A)
  | slice (es : Nat) (x : A) (lo hi mx : Option A)
  | sliceS (x : A) (lo hi : Option A)
  | sliceA (len es : Nat) (x : A) (lo hi : Option A)
  | faddr (off : Nat) (x : A)
  | fld (agg : Bool) (off n : Nat) (x : A)
  | iaddr (es : Nat) (x i : A)
  | iaddrA (len es : Nat) (x i : A)
  | idxA (agg : Bool) (len es : Nat) (x i : A)
  | idxS (x i : A)
  | assert (t : Nat) (ok : Bool) (z : U) (x : A)
  | extract (x : A) (i : Nat)
  | len (k : Nat) (x : A)      -- 0: of a slice, 1: of a text, 2: of a map
  | lenA (n : Nat)
  | append (tag es bytes : Nat) (keep : Bool) (s x : A)
  | copy (es : Nat) (d x : A)
  | appendZ (tag es bytes : Nat) (keep : Bool) (z : List U) (s x : A)     -- as many zero values as x says
  | storeOwn (n : Nat) (owns : List (Nat × Nat × Nat × Bool)) (a x : A)     -- cells of what is stored that are nil slices, made rows
  | mm (max : Bool) (xs : List A)
  | call (f : Nat) (args : List A)
  | callv (f : A) (args : List A)
  | range (x : A)
  | next (x : A)
  | nilck (x : A)
  deriving Inhabited
structure O where
  dst : Option Nat
  op : I
  guard : Option (Nat × Bool) := none
  deriving Inhabited
inductive C where
  | skip
  | ops (l : List O) (live : List Nat)
  | opsD (l : List O) (bef : List Nat) (live : List Nat)      -- its order is open; bef: what comes before each, as bits
  | seq (a b : C)
  | cond (c : A) (t e : C)
  | block (id : Nat) (c : C)
  | loop (c : C)
  | exit (id : Nat)
  | ret
  deriving Inhabited
inductive RV where
  | tmp (t : Nat)
  | cell (t : Nat) (agg : Bool) (n : Nat)
  deriving Inhabited
structure F where
  pure : Bool
  nargs : Nat
  body : C
  res : List RV
  deriving Inhabited
abbrev Env := List (Nat × U)
structure S where
  env : Env
  st : List Ob
  deriving Inhabited
def get : Env → Nat → U
  | [], _ => .dead
  | (j, u) :: e, i => if j = i then u else get e i
def A.ev (e : Env) : A → U
  | .t n => get e n
  | .k u => u
def cellsO : U → Option (List U)
  | .agg cs => some cs
  | .dead | .tup _ => none
  | u => some [u]
def part (agg : Bool) (cs : List U) : Option U :=
  match agg, cs with
  | true, cs => some (.agg cs)
  | false, [u] => some u
  | _, _ => none
def over : List U → List U → List U
  | u :: us, _ :: cs => u :: over us cs
  | [], cs => cs
  | _ :: _, [] => []
def splice : List U → Nat → List U → List U
  | cs, 0, us => over us cs
  | c :: cs, n + 1, us => c :: splice cs n us
  | [], _ + 1, _ => []
def sub (cs : List U) (off n : Nat) : Option (List U) := if off + n ≤ cs.length then some ((cs.drop off).take n) else none
def accM {α : Type} (f : List Ob → α → Option (α × List Ob)) : List Ob → List α → Option (List α × List Ob)
  | st, [] => some ([], st)
  | st, x :: xs => (f st x).bind fun (y, st) => (accM f st xs).bind fun (ys, st) => some (y :: ys, st)
def allM {α β : Type} (f : α → Option β) : List α → Option (List β)
  | [] => some []
  | x :: xs => (f x).bind fun y => (allM f xs).bind fun ys => some (y :: ys)
def frz : Nat → List Ob → U → Option (U × List Ob)
  | 0, _, _ => none
  | d + 1, st, u =>
    match u with
    | .bool _ | .int _ _ | .str _ | .nilI | .nilF | .sl true _ => some (u, st)
    | .nils => some (.sl true [], st)
    | .iface t u => (frz d st u).bind fun (u, st) => some (.iface t u, st)
    | .agg cs => (accM (frz d) st cs).bind fun (cs, st) => some (.agg cs, st)
    | .tup cs => (accM (frz d) st cs).bind fun (cs, st) => some (.tup cs, st)
    | .fn _ [] => some (u, st)
    | .own id n =>
      match st[id]? with
      | some (.frow xs) => if xs.length = n then some (.sl true xs, st) else none
      | some (.row _ _ false xs) => if xs.length = n then some (.sl true xs, st.set id (.frow xs)) else none
      | some (.row _ _ true xs) => if xs.length = n then (accM (accM (frz d)) st xs).bind fun (xs, st) => match st[id]? with
        | some (.row _ _ _ ys) => if ys.length = n then some (.sl true xs, st.set id (.frow xs)) else none
        | _ => none
        else none
      | _ => none
    | _ => none
def frzD : Nat := 12
def brw : Nat → List Ob → U → Option U
  | 0, _, _ => none
  | d + 1, st, u =>
    match u with
    | .bool _ | .int _ _ | .str _ | .nilI | .nilF | .sl _ _ | .fn _ [] => some u
    | .nils => some (.sl true [])
    | .iface t u => (brw d st u).bind fun u => some (.iface t u)
    | .agg cs => (allM (brw d st) cs).bind fun cs => some (.agg cs)
    | .own id n =>
      match st[id]? with
      | some (.frow xs) => if xs.length = n then some (.sl true xs) else none
      | some (.row _ _ false xs) => if xs.length = n then some (.sl false xs) else none
      | some (.row _ _ true xs) => if xs.length = n then (allM (allM (brw d st)) xs).bind fun xs => some (.sl false xs) else none
      | _ => none
    | _ => none
def brwA (d : Nat) (st : List Ob) : U → Option U
  | .bp id off => match st[id]? with
    | some (.box cs) => if off ≤ cs.length then (allM (brw d st) (cs.drop off)).map .fp else none
    | _ => none
  | u => brw d st u
def blw : Nat → Nat → U → Bool
  | 0, _, _ => false
  | d + 1, L, u =>
    match u with
    | .own id _ | .bp id _ | .rp id _ _ _ | .bs id _ _ _ | .mp id | .it id => decide (id < L)
    | .iface _ u => blw d L u
    | .agg cs | .tup cs => cs.all (blw d L)
    | .fn _ cs => cs.all (blw d L)
    | _ => true
def blwD : Nat := 12
def Ob.blw (L : Nat) : Ob → Bool
  | .box cs => cs.all (M2.blw blwD L)
  | .row _ _ true xs => xs.all fun x => x.all (M2.blw blwD L)
  | _ => true
def trim (L : Nat) (s : S) : Option S :=
  if s.env.all (fun p => blw blwD L p.2) && (s.st.take L).all (Ob.blw L) then some { s with st := s.st.take L } else none
def trimO (L : Nat) (s : S) : S := (trim L s).getD s
def rowAt (st : List Ob) (id n : Nat) : Option (List (List U)) :=
  match st[id]? with
  | some (.row _ _ _ xs) | some (.frow xs) => if xs.length = n then some xs else none
  | _ => none
def ld (st : List Ob) (n : Nat) : U → Option (List U)
  | .bp id off => match st[id]? with
    | some (.box cs) => sub cs off n
    | _ => none
  | .rp id m i off => match st[id]? with
    | some (.row _ _ _ xs) => if xs.length = m then (xs[i]?).bind fun x => sub x off n else none
    | _ => none
  | .fp cs => sub cs 0 n
  | _ => none
def stoRow (st : List Ob) (id m i off : Nat) (us : List U) : Option (List Ob) :=
  match st[id]? with
  | some (.row tag es keep xs) =>
    if xs.length = m then
      (xs[i]?).bind fun x => if off + us.length ≤ x.length then some (st.set id (.row tag es keep (xs.set i (splice x off us)))) else none
    else none
  | _ => none
def sto (st : List Ob) (us : List U) : U → Option (List Ob)
  | .bp id off => match st[id]? with
    | some (.box cs) => if off + us.length ≤ cs.length then some (st.set id (.box (splice cs off us))) else none
    | _ => none
  | .rp id m i off => match st[id]? with
    | some (.row _ _ true _) => stoRow st id m i off us
    | some (.row _ _ false _) => (accM (frz frzD) st us).bind fun (us, st) => stoRow st id m i off us
    | _ => none
  | _ => none
def appRow (st : List Ob) (id n tag es by_ : Nat) (ys : List (List U)) : Option (List Ob) :=
  match st[id]? with
  | some (.row tag' es' keep xs) => if xs.length = n ∧ tag' = tag ∧ es' = es ∧ (n + ys.length) * by_ ≤ 140737488355328 then some (st.set id (.row tag es keep (xs ++ ys))) else none
  | _ => none
def appTo (st : List Ob) (id n tag es by_ : Nat) (ys : List (List U)) : Option (U × List Ob) :=
  match st[id]? with
  | some (.row _ _ true _) => (appRow st id n tag es by_ ys).bind fun st => some (.own id (n + ys.length), st)
  | some (.row _ _ false _) => (accM (accM (frz frzD)) st ys).bind fun (ys, st) => (appRow st id n tag es by_ ys).bind fun st => some (.own id (n + ys.length), st)
  | _ => none
def cpyRow (st : List Ob) (id n es : Nat) (ys : List (List U)) : Option (List Ob) :=
  match st[id]? with
  | some (.row tag es' keep xs) => if xs.length = n ∧ es' = es ∧ ys.length ≤ n ∧ ys.all (fun y => y.length == es) = true then some (st.set id (.row tag es' keep (ys ++ xs.drop ys.length))) else none
  | _ => none
def arith (op : BinOp) (k : IntKind) (x y : Int) : Option U :=
  match op with
  | .add => some (.int k (k.wrap (x + y)))
  | .sub => some (.int k (k.wrap (x - y)))
  | .mul => some (.int k (k.wrap (x * y)))
  | .quo => if y = 0 then none else some (.int k (k.wrap (x.tdiv y)))
  | .rem => if y = 0 then none else some (.int k (x.tmod y))
  | .and => some (.int k (k.wrap (BitVec.ofInt k.bits x &&& BitVec.ofInt k.bits y).toNat))
  | .or => some (.int k (k.wrap (BitVec.ofInt k.bits x ||| BitVec.ofInt k.bits y).toNat))
  | .xor => some (.int k (k.wrap (BitVec.ofInt k.bits x ^^^ BitVec.ofInt k.bits y).toNat))
  | .eql => some (.bool (x == y))
  | .neq => some (.bool (x != y))
  | .lss => some (.bool (x < y))
  | .leq => some (.bool (x ≤ y))
  | .gtr => some (.bool (x > y))
  | .geq => some (.bool (x ≥ y))
  | _ => none
def bin (op : BinOp) : U → U → Option U
  | .int k x, .int k' y =>
    match op with
    | .shl => if 0 ≤ y then some (.int k (k.wrap (x * 2 ^ min y.toNat k.bits))) else none
    | .shr => if 0 ≤ y then some (.int k (x.fdiv (2 ^ min y.toNat k.bits))) else none
    | _ => if k = k' then arith op k x y else none
  | .str a, .str b =>
    match op with
    | .add => if a.length + b.length ≤ 9223372036854775807 then some (.str (a ++ b)) else none
    | .eql => some (.bool (a == b))
    | .neq => some (.bool !(a == b))
    | _ => none
  | _, _ => none
def cellsS (sh : Sh) (u : U) : Option (List U) :=
  match sh, u with
  | .tst _, .agg cs | .tarr _ _ _, .agg cs => some cs
  | .tst _, _ | .tarr _ _ _, _ | _, .agg _ | _, .dead | _, .tup _ => none
  | _, u => some [u]
def same : Nat → Sh → List U → List U → Option Bool
  | 0, _, _, _ => none
  | d + 1, sh, us, vs =>
    match sh, us, vs with
    | .tb, [.bool a], [.bool b] => some (a == b)
    | .ti, [.int k a], [.int k' b] => if k = k' then some (a == b) else none
    | .ts, [.str a], [.str b] => some (a == b)
    | .tf, [.nilF], [.nilF] => some true
    | .tf, [.nilF], [.fn _ _] | .tf, [.fn _ _], [.nilF] => some false
    | .tifc _, [.nilI], [.iface _ _] | .tifc _, [.iface _ _], [.nilI] => some false
    | .tifc alts, [.iface t a], [.iface t' b] =>
      if t = t' then (alts.lookup t).bind fun sh => (cellsS sh a).bind fun a => (cellsS sh b).bind fun b => same d sh a b else some false
    | .tst fs, us, vs => fields (same d) fs us vs
    | .tarr n size e, us, vs => if us.length = n * size ∧ vs.length = n * size then items (same d e) size n us vs else none
    | _, _, _ => none
where
  fields (f : Sh → List U → List U → Option Bool) : List (Nat × Sh) → List U → List U → Option Bool
    | [], [], [] => some true
    | (n, sh) :: fs, us, vs => if n ≤ us.length ∧ n ≤ vs.length then (f sh (us.take n) (vs.take n)).bind fun r => (fields f fs (us.drop n) (vs.drop n)).map (r && ·) else none
    | _, _, _ => none
  items (f : List U → List U → Option Bool) (size : Nat) : Nat → List U → List U → Option Bool
    | 0, _, _ => some true
    | n + 1, us, vs => (f (us.take size) (vs.take size)).bind fun r => (items f size n (us.drop size) (vs.drop size)).map (r && ·)
def sameD : Nat := 12
def un (op : UnOp) : U → Option U
  | .int k x => match op with
    | .neg => some (.int k (k.wrap (0 - x)))
    | _ => none
  | .bool b => match op with
    | .not => some (.bool !b)
    | _ => none
  | _ => none
def idx (i : Int) (n : Nat) : Option Nat := if 0 ≤ i ∧ i < n then some i.toNat else none
def opt (e : Env) (d : Int) : Option A → Option Int
  | none => some d
  | some a => match a.ev e with
    | .int _ i => some i
    | _ => none
def sameV (sh : Sh) (u v : U) : Option Bool := (cellsS sh u).bind fun a => (cellsS sh v).bind fun b => same sameD sh a b
def look (sh : Sh) (k : U) : List (U × U) → Option (Option U)
  | [] => some none
  | (k', v) :: es => (sameV sh k k').bind fun r => if r then some (some v) else look sh k es
def mset (sh : Sh) (k v : U) : List (U × U) → Option (List (U × U))
  | [] => some [(k, v)]
  | (k', v') :: es => (sameV sh k k').bind fun r => if r then some ((k, v) :: es) else (mset sh k v es).bind fun es => some ((k', v') :: es)
def closed : U → Bool
  | .bool _ | .int _ _ | .str _ | .nilI | .nilF | .sl true _ | .fn _ [] => true
  | .agg cs => cs.all fun | .bool _ | .int _ _ | .str _ | .sl true _ => true | _ => false
  | _ => false
def cut {α : Type} (xs : List α) (lo hi : Int) : Option (List α) := if 0 ≤ lo ∧ lo ≤ hi ∧ hi ≤ xs.length then some ((xs.take hi.toNat).drop lo.toNat) else none
def headLen (es : Nat) : List (List U) → Bool
  | [] => true
  | x :: _ => x.length == es
def limit : Nat := 140737488355328
def chunks (es : Nat) : Nat → List U → List (List U)
  | 0, _ => []
  | n + 1, cs => cs.take es :: chunks es n (cs.drop es)
def elems (st : List Ob) : U → Option (List (List U))
  | .sl _ xs => some xs
  | .nils => some []
  | .own id n => rowAt st id n
  | _ => none
def bytes : List (List U) → Option (List UInt8)
  | [] => some []
  | [.int .u8 n] :: xs => (bytes xs).bind fun s => some (UInt8.ofNat n.toNat :: s)
  | _ => none
def mm (max : Bool) : List U → Option U
  | [.int k a, .int k' b] => if k = k' then some (.int k (if max then (if a < b then b else a) else (if b < a then b else a))) else none
  | _ => none
def newOb (st : List Ob) (nid : Nat) (o : Ob) : Option (List Ob) :=
  match st[nid]? with
  | some .hole => some (st.set nid o)
  | none => if nid = st.length then some (st ++ [o]) else none
  | _ => none
def laidOwn (z : List U) (st : List Ob) (nid : Nat) : List (Nat × Nat × Nat × Bool) → Option (List U × List Ob × Nat)
  | [] => some (z, st, nid)
  | (i, tag, es, keep) :: r => (newOb st nid (.row tag es keep [])).bind fun st => laidOwn (z.set i (.own nid 0)) st (nid + 1) r
def fillC (e : Env) : List (Nat × Nat × A) → List U → Option (List U)
  | [], cs => some cs
  | (off, n, x) :: ps, cs => (cellsO (x.ev e)).bind fun us => if us.length = n ∧ off + n ≤ cs.length then fillC e ps (splice cs off us) else none
def fillR (e : Env) (es : Nat) : List (Nat × A) → List (List U) → Option (List (List U))
  | [], xs => some xs
  | (i, x) :: ps, xs => (cellsO (x.ev e)).bind fun us => if us.length = es ∧ i < xs.length then fillR e es ps (xs.set i us) else none
abbrev Touch := Option (List (Nat × Bool))
def flatU : Nat → U → Bool
  | 0, _ => false
  | d + 1, u => match u with
    | .bool _ | .int _ _ | .str _ | .nilI | .nilF | .nils | .sl _ _ | .fn _ [] => true
    | .iface _ u => flatU d u
    | .agg cs => cs.all (flatU d)
    | _ => false
def plainU (u : U) : Bool := flatU 6 u
def touchE (st : List Ob) : U → Touch
  | .own id _ => match st[id]? with
    | some (.row _ _ false _) | some (.frow _) => some [(id, false)]
    | _ => none
  | _ => some []
def touchA (st : List Ob) : List U → Touch
  | [] => some []
  | .own id n :: us => (touchE st (.own id n)).bind fun l => (touchA st us).map (l ++ ·)
  | .sl _ _ :: us => touchA st us
  | .bp id _ :: us => match st[id]? with
    | some (.box cs) => if cs.all plainU then (touchA st us).map ((id, false) :: ·) else none
    | _ => none
  | u :: us => if plainU u then touchA st us else none
def touchN (st : List Ob) (nid : Nat) : Touch := match st[nid]? with
  | some .hole => some [(nid, true)]
  | _ => none
def touchM (st : List Ob) : Nat → Nat → Touch
  | _, 0 => some []
  | nid, n + 1 => match touchN st nid with
    | some t => (touchM st (nid + 1) n).map (t ++ ·)
    | none => none
def touchX (st : List Ob) (u : U) : Touch := (touchE st u).bind fun t => (elems st u).bind fun ys => if ys.all (·.all plainU) then some t else none
def plainAs (e : Env) (xs : List A) : Bool := xs.all fun x => plainU (x.ev e)
def touch (pf : Nat → Bool) (e : Env) (st : List Ob) (nid : Nat) : I → Touch
  | .mov _ | .pick .. | .bin .. | .eq .. | .un .. | .convI .. | .convS .. | .iface .. | .mkfn .. | .build .. | .faddr .. | .fld .. | .idxA .. | .idxS .. | .assert .. | .extract .. | .lenA _ | .mm .. | .nilck _ | .iaddrA .. | .toBytes .. | .sliceS .. | .sliceA .. => some []
  | .ownnil .. | .alloc _ | .box _ | .mkmap => touchN st nid
  | .allocOwn _ os => touchM st nid (os.length + 1)
  | .mkslice _ _ _ keep z _ => if keep || z.all plainU then touchN st nid else none
  | .lit _ _ keep z _ ps => if keep || (z.all plainU && plainAs e (ps.map (·.2))) then touchN st nid else none
  | .load _ _ a => match a.ev e with
    | .bp id _ | .rp id _ _ _ => some [(id, false)]
    | _ => some []
  | .store _ a x => match a.ev e with
    | .bp id _ => some [(id, true)]
    | .rp id _ _ _ => if plainU (x.ev e) then some [(id, true)] else none
    | _ => some []
  | .toStr x => touchE st (x.ev e)
  | .len _ x => match x.ev e with
    | .mp id => some [(id, false)]
    | u => touchE st u
  | .lookup _ _ _ m _ => match m.ev e with
    | .mp id => some [(id, false)]
    | _ => some []
  | .mapset _ m _ _ => match m.ev e with
    | .mp id => some [(id, true)]
    | _ => some []
  | .slice _ x .. => match x.ev e with
    | .own _ _ => none
    | _ => some []
  | .iaddr _ x _ => match x.ev e with
    | .own id _ => some [(id, false)]
    | _ => some []
  | .call f args => if pf f then touchA st (args.map (·.ev e)) else none
  | .append _ _ _ _ s x => match s.ev e with
    | .nils => (touchX st (x.ev e)).bind fun t => (touchN st nid).map (t ++ ·)
    | .own id _ => (touchX st (x.ev e)).map (· ++ [(id, true)])
    | _ => none
  | _ => none
def ueq1 : U → U → Bool
  | .int k a, .int k' b => decide (k = k') && decide (a = b)
  | .bool a, .bool b => decide (a = b)
  | .str a, .str b => decide (a = b)
  | .nils, .nils => true
  | .nilI, .nilI => true
  | .own a b, .own c d => decide (a = c) && decide (b = d)
  | .bp a b, .bp c d => decide (a = c) && decide (b = d)
  | .mp a, .mp b => decide (a = b)
  | _, _ => false
def ueqs : List U → List U → Bool
  | [], [] => true
  | a :: as, b :: bs => ueq1 a b && ueqs as bs
  | _, _ => false
def obEq : Option Ob → Option Ob → Bool
  | none, none => true
  | some (.box a), some (.box b) => ueqs a b
  | _, _ => false
def callT (st st' : List Ob) : List (Nat × Bool) := (List.range (st.length + 1)).map fun i => (i, !obEq st[i]? st'[i]?)
def updT (st st' : List Ob) : Touch → Touch
  | some t => some t
  | none => if st'.length = st.length then some (callT st st') else none
def ind (s t : Touch) : Bool :=
  match s, t with
  | some a, some b => a.all fun x => b.all fun y => x.1 != y.1 || (!x.2 && !y.2)
  | some [], none | none, some [] => true
  | _, _ => false
def A.uses : A → List Nat
  | .t n => [n]
  | .k _ => []
def oUses : Option A → List Nat
  | some a => a.uses
  | none => []
def I.uses : I → List Nat
  | .mov x | .box x | .load _ _ x | .un _ x | .convI _ x | .convS x | .toStr x | .toBytes _ x | .iface _ x | .faddr _ x | .fld _ _ _ x | .assert _ _ _ x | .extract x _ | .len _ x | .range x | .next x | .nilck x | .mkslice _ _ _ _ _ x => x.uses
  | .ownnil .. | .alloc _ | .allocOwn .. | .mkmap | .lenA _ => []
  | .pick a b c | .mapset _ a b c => a.uses ++ b.uses ++ c.uses
  | .build _ ps => ps.flatMap fun p => p.2.2.uses
  | .lit _ _ _ _ _ ps => ps.flatMap fun p => p.2.uses
  | .store _ a x | .bin _ a x | .eq _ _ a x | .lookup _ _ _ a x | .iaddr _ a x | .iaddrA _ _ a x | .idxA _ _ _ a x | .idxS a x | .append _ _ _ _ a x | .copy _ a x | .storeOwn _ _ a x | .appendZ _ _ _ _ _ a x => a.uses ++ x.uses
  | .mkfn _ xs | .mm _ xs | .call _ xs => xs.flatMap A.uses
  | .callv f xs => f.uses ++ xs.flatMap A.uses
  | .slice _ x a b c => x.uses ++ oUses a ++ oUses b ++ oUses c
  | .sliceS x a b | .sliceA _ _ x a b => x.uses ++ oUses a ++ oUses b
def O.uses (o : O) : List Nat := o.op.uses ++ (match o.guard with | some (g, _) => [g] | none => [])
def tmpInd (a b : O) : Bool :=
  (match a.dst with | some d => !(b.uses.contains d) && !(b.dst == some d) | none => true) && (match b.dst with | some d => !(a.uses.contains d) | none => true)
def aside (b i : Nat) (o : O × Touch) : List (O × Touch) → Bool
  | [] => true
  | p :: ps => (b.testBit i || (tmpInd p.1 o.1 && ind p.2 o.2)) && aside b (i + 1) o ps
def I.need : I → Nat
  | .ownnil .. | .alloc _ | .box _ | .mkmap | .mkslice .. | .lit .. | .append .. | .appendZ .. => 1
  | .allocOwn _ os => os.length + 1
  | _ => 0
section
variable (pf : Nat → Bool) (call : Nat → List U → List Ob → Option (U × List Ob))
def ev1 (e : Env) (st : List Ob) (nid : Nat) : I → Option (U × List Ob)
  | .mov x => some (x.ev e, st)
  | .ownnil tag es keep => (newOb st nid (.row tag es keep [])).bind fun st => some (.own nid 0, st)
  | .pick c a b => match c.ev e with
    | .bool t => some (if t then a.ev e else b.ev e, st)
    | _ => none
  | .alloc z => (newOb st nid (.box z)).bind fun st => some (.bp nid 0, st)
  | .allocOwn z owns => (laidOwn z st nid owns).bind fun (z, st, nid) => (newOb st nid (.box z)).bind fun st => some (.bp nid 0, st)
  | .box x => (cellsO (x.ev e)).bind fun cs => (newOb st nid (.box cs)).bind fun st => some (.bp nid 0, st)
  | .build z parts => (fillC e parts z).bind fun cs => some (.agg cs, st)
  | .lit tag es keep z n parts =>
    (fillR e es parts (List.replicate n z)).bind fun xs =>
      if keep then (newOb st nid (.row tag es keep xs)).bind fun st => some (.own nid n, st)
      else (accM (accM (frz frzD)) st xs).bind fun (xs, st) => (newOb st nid (.row tag es keep xs)).bind fun st => some (.own nid n, st)
  | .load agg n a => (ld st n (a.ev e)).bind fun cs => (part agg cs).bind fun u => some (u, st)
  | .store n a x => (cellsO (x.ev e)).bind fun us => if us.length = n then (sto st us (a.ev e)).bind fun st => some (.tup [], st) else none
  | .storeOwn n owns a x => (cellsO (x.ev e)).bind fun us => if us.length = n ∧ us.all (fun u => match u with | .own _ _ => false | _ => true) = true ∧ owns.all (fun p => (match us[p.1]? with | some .nils => true | _ => false) && decide (0 < p.2.2.1)) = true then (laidOwn us st nid owns).bind fun (us, st, _) => (sto st us (a.ev e)).bind fun st => some (.tup [], st) else none
  | .bin op x y => (bin op (x.ev e) (y.ev e)).bind fun u => some (u, st)
  | .eq neg sh x y => (sameV sh (x.ev e) (y.ev e)).bind fun b => some (.bool (if neg then !b else b), st)
  | .un op x => (un op (x.ev e)).bind fun u => some (u, st)
  | .convI k x => match x.ev e with
    | .int _ n => some (.int k (k.wrap n), st)
    | _ => none
  | .convS x => match x.ev e with
    | .str s => some (.str s, st)
    | _ => none
  | .toStr x => (elems st (x.ev e)).bind fun xs => (bytes xs).bind fun s => some (.str s, st)
  | .toBytes tag x => match x.ev e with
    | .str s => some (.sl true (s.map fun b => [.int .u8 b.toNat]), st)
    | _ => none
  | .iface t x => some (.iface t (x.ev e), st)
  | .mkfn f caps => some (.fn f (caps.map (·.ev e)), st)
  | .mkmap => (newOb st nid (.map [])).bind fun st => some (.mp nid, st)
  | .lookup ok sh z m k => match m.ev e with
    | .mp id => match st[id]? with
      | some (.map es) => if sameV sh (k.ev e) (k.ev e) = some true then (look sh (k.ev e) es).bind fun r => some (match r with
        | some v => if ok then .tup [v, .bool true] else v
        | none => if ok then .tup [z, .bool false] else z, st) else none
      | _ => none
    | _ => none
  | .mapset sh m k v => match m.ev e with
    | .mp id => match st[id]? with
      | some (.map es) => if closed (k.ev e) && closed (v.ev e) && sameV sh (k.ev e) (k.ev e) == some true then (mset sh (k.ev e) (v.ev e) es).bind fun es => some (.tup [], st.set id (.map es)) else none
      | _ => none
    | _ => none
  | .mkslice tag es bytes keep z n => match n.ev e with
    | .int _ n => if 0 ≤ n ∧ n * bytes ≤ limit then (if keep then some (z, st) else accM (frz frzD) st z).bind fun (z, st) => (newOb st nid (.row tag es keep (List.replicate n.toNat z))).bind fun st => some (.own nid n.toNat, st) else none
    | _ => none
  | .slice es x lo hi mx => match x.ev e with
    | .sl p xs => (opt e 0 lo).bind fun lo => (opt e xs.length hi).bind fun hi => (opt e xs.length mx).bind fun m => if hi ≤ m ∧ m ≤ xs.length ∧ headLen es xs = true then (cut xs lo hi).bind fun xs => some (.sl p xs, st) else none
    | .own id n => (frz frzD st (.own id n)).bind fun (u, st) => match u with
      | .sl p xs => (opt e 0 lo).bind fun lo => (opt e xs.length hi).bind fun hi => (opt e xs.length mx).bind fun m => if hi ≤ m ∧ m ≤ xs.length ∧ headLen es xs = true then (cut xs lo hi).bind fun xs => some (.sl p xs, st) else none
      | _ => none
    | _ => none
  | .sliceS x lo hi => match x.ev e with
    | .str s => (opt e 0 lo).bind fun lo => (opt e s.length hi).bind fun hi => (cut s lo hi).bind fun s => some (.str s, st)
    | _ => none
  | .sliceA len es x lo hi => match x.ev e with
    | .bp id off => (opt e 0 lo).bind fun lo => (opt e len hi).bind fun hi => if 0 ≤ lo ∧ lo ≤ hi ∧ hi ≤ len ∧ lo < len then some (.bs id (off + lo.toNat * es) (hi - lo).toNat es, st) else none
    | _ => none
  | .faddr off x => match x.ev e with
    | .bp id o => some (.bp id (o + off), st)
    | .rp id n i o => some (.rp id n i (o + off), st)
    | .fp cs => if off < cs.length then some (.fp (cs.drop off), st) else none
    | _ => none
  | .fld agg off n x => match x.ev e with
    | .agg cs => (sub cs off n).bind fun cs => (part agg cs).bind fun u => some (u, st)
    | _ => none
  | .iaddr es x i => match i.ev e with
    | .int _ i => match x.ev e with
      | .sl _ xs => (idx i xs.length).bind fun i => (xs[i]?).bind fun x => if x.length = es then some (.fp x, st) else none
      | .own id n => match st[id]? with
        | some (.row _ es' _ xs) => if xs.length = n ∧ es' = es then (idx i n).bind fun i => some (.rp id n i 0, st) else none
        | some (.frow xs) => if xs.length = n then (idx i n).bind fun i => (xs[i]?).bind fun x => if x.length = es then some (.fp x, st) else none else none
        | _ => none
      | .bs id off n es' => if es' = es then (idx i n).bind fun i => some (.bp id (off + i * es), st) else none
      | _ => none
    | _ => none
  | .iaddrA len es x i => match i.ev e with
    | .int _ i => (idx i len).bind fun i => match x.ev e with
      | .bp id o => some (.bp id (o + i * es), st)
      | .rp id n j o => some (.rp id n j (o + i * es), st)
      | .fp cs => if i * es < cs.length then some (.fp (cs.drop (i * es)), st) else none
      | _ => none
    | _ => none
  | .idxA agg len es x i => match i.ev e, x.ev e with
    | .int _ i, .agg cs => (idx i len).bind fun i => (sub cs (i * es) es).bind fun cs => (part agg cs).bind fun u => some (u, st)
    | _, _ => none
  | .idxS x i => match i.ev e, x.ev e with
    | .int _ i, .str s => (idx i s.length).bind fun i => (s[i]?).bind fun b => some (.int .u8 b.toNat, st)
    | _, _ => none
  | .assert t ok z x => match x.ev e with
    | .nilI => if ok then some (.tup [z, .bool false], st) else none
    | .iface t' u => if t' = t then some (if ok then .tup [u, .bool true] else u, st) else if ok then some (.tup [z, .bool false], st) else none
    | _ => none
  | .extract x i => match x.ev e with
    | .tup vs => (vs[i]?).bind fun u => some (u, st)
    | _ => none
  | .len k x => match k, x.ev e with
    | 2, .mp id => match st[id]? with
      | some (.map es) => some (.int .i64 es.length, st)
      | _ => none
    | 1, .str s => some (.int .i64 s.length, st)
    | 0, u => (elems st u).bind fun xs => some (.int .i64 xs.length, st)
    | _, _ => none
  | .lenA n => some (.int .i64 n, st)
  | .append tag es by_ keep s x => (elems st (x.ev e)).bind fun ys =>
    if ys.all (fun y => y.length == es) then
      match s.ev e with
      | .own id n => appTo st id n tag es by_ ys
      | .nils => if 0 < es then (newOb st nid (.row tag es keep [])).bind fun st => appTo st nid 0 tag es by_ ys else none
      | _ => none
    else none
  | .appendZ tag es by_ keep z s x => match x.ev e with
    | .int .i64 m => if 0 < m ∧ m ≤ 16777216 ∧ z.length = es then
        match s.ev e with
        | .own id n => appTo st id n tag es by_ (List.replicate m.toNat z)
        | .nils => if 0 < es then (newOb st nid (.row tag es keep [])).bind fun st => appTo st nid 0 tag es by_ (List.replicate m.toNat z) else none
        | _ => none
      else none
    | _ => none
  | .copy es d x => (elems st (x.ev e)).bind fun ys => match d.ev e with
    | .own id n => match st[id]? with
      | some (.row _ _ false _) => (accM (accM (frz frzD)) st (ys.take n)).bind fun (ys, st) => (cpyRow st id n es ys).bind fun st => some (.int .i64 ys.length, st)
      | _ => none
    | _ => none
  | .mm max xs => (mm max (xs.map (·.ev e))).bind fun u => some (u, st)
  | .call f args => call f (args.map (·.ev e)) st
  | .callv f args => match f.ev e with
    | .fn f caps => call f (args.map (·.ev e) ++ caps) st
    | _ => none
  | .range x => match x.ev e with
    | .str s => (newOb st nid (.iter s 0)).bind fun st => some (.it nid, st)
    | _ => none
  | .next x => match x.ev e with
    | .it id => match st[id]? with
      | some (.iter s pos) =>
        if pos < s.length then
          let r := Utf8.decode ⟨s.toArray⟩ pos
          some (.tup [.bool true, .int .i64 pos, .int .i32 r.1], st.set id (.iter s (pos + r.2)))
        else some (.tup [.bool false], st)
      | _ => none
    | _ => none
  | .nilck x => match x.ev e with
    | .bp id o => some (.bp id o, st)
    | .rp id n i o => some (.rp id n i o, st)
    | .fp cs => some (.fp cs, st)
    | .fn f cs => some (.fn f cs, st)
    | _ => none
def put (e : Env) (d : Option Nat) (u : U) : Env :=
  match d with
  | some d => (d, u) :: e
  | none => e
def evO (nid : Nat) (s : S) (o : O) : Option S :=
  match o.guard with
  | none => (ev1 call s.env s.st nid o.op).bind fun (u, st) => some ⟨put s.env o.dst u, st⟩
  | some (g, b) => match get s.env g with
    | .bool c => if c = b then (ev1 call s.env s.st nid o.op).bind fun (u, st) => some ⟨put s.env o.dst u, st⟩ else some ⟨put s.env o.dst (.tup []), s.st⟩
    | .tup [] => some ⟨put s.env o.dst (.tup []), s.st⟩
    | _ => none
def evOs : S → List O → Option S
  | s, [] => some s
  | s, o :: os => (evO call s.st.length s o).bind fun s => evOs s os
def evT (nid : Nat) (s : S) (o : O) : Option (S × Touch) :=
  let t := match o.guard with
    | none => touch pf s.env s.st nid o.op
    | some (g, b) => match get s.env g with
      | .bool c => if c = b then touch pf s.env s.st nid o.op else some []
      | _ => some []
  (evO call nid s o).bind fun s => some (s, t)
def evU (nid : Nat) (s : S) (o : O) : Option (S × Touch) := (evT pf call nid s o).map fun p => (p.1, updT s.st p.1.st p.2)
def evDs : Nat → S → List (O × Touch) → List O → List Nat → Option S
  | _, s, _, [], _ => some s
  | nid, s, done, o :: os, b :: bs => (evU pf call nid s o).bind fun (s, t) =>
    if aside b 0 (o, t) done then evDs (nid + o.op.need) s (done ++ [(o, t)]) os bs else none
  | _, _, _, _ :: _, [] => none
def keep (live : List Nat) (e : Env) : Env := live.map fun i => (i, get e i)
inductive X where
  | nrm
  | exit (id : Nat)
  | ret
def evC (rec : C → S → Option (X × S)) : C → S → Option (X × S)
  | .skip, s => some (.nrm, s)
  | .ops l live, s => (evOs call s l).bind fun s => some (.nrm, ⟨keep live s.env, s.st⟩)
  | .opsD l bef live, s => (evDs pf call s.st.length ⟨s.env, s.st ++ List.replicate ((l.map (·.op.need)).sum) .hole⟩ [] l bef).bind fun s => some (.nrm, ⟨keep live s.env, s.st⟩)
  | .seq a b, s => (evC rec a s).bind fun (x, s) => match x with
    | .nrm => evC rec b s
    | x => some (x, s)
  | .cond c t e, s => match c.ev s.env with
    | .bool b => if b then evC rec t s else evC rec e s
    | _ => none
  | .block id c, s => (evC rec c s).bind fun (x, s) => match x with
    | .exit id' => if id' = id then some (.nrm, s) else some (.exit id', s)
    | x => some (x, s)
  | .loop c, s => (evC rec c s).bind fun (x, s') => match x with
    | .nrm => rec (.loop c) (trimO s.st.length s')
    | x => some (x, s')
  | .exit id, s => some (.exit id, s)
  | .ret, s => some (.ret, s)
end
def res1 (s : S) : RV → Option U
  | .tmp t => some (get s.env t)
  | .cell t agg n => (ld s.st n (get s.env t)).bind fun cs => part agg cs
def resU (s : S) (rs : List RV) : Option U :=
  (allM (res1 s) rs).bind fun us => match us with
    | [u] => some u
    | us => some (.tup us)
def params (i : Nat) : List U → Env
  | [] => []
  | u :: us => (i, u) :: params (i + 1) us
def isEnd : X → Bool
  | .nrm | .ret => true
  | .exit _ => false
def callF (T : Nat → Option F) (evc : C → S → Option (X × S)) (f : Nat) (args : List U) (st : List Ob) : Option (U × List Ob) :=
  (T f).bind fun fn =>
    if args.length = fn.nargs then
      if fn.pure then
        (allM (brwA frzD st) args).bind fun args =>
          (evc fn.body ⟨params 0 args, []⟩).bind fun (x, s) =>
            if isEnd x then (resU s fn.res).bind fun u => (frz frzD s.st u).bind fun (u, _) => some (u, st) else none
      else
        (evc fn.body ⟨params 0 args, st⟩).bind fun (x, s) =>
          if isEnd x then (resU s fn.res).bind fun u => some (u, (trimO st.length ⟨[(0, u)], s.st⟩).st) else none
    else none
def ev (T : Nat → Option F) : Nat → C → S → Option (X × S)
  | 0 => fun _ _ => none
  | n + 1 => evC (fun f => (T f).any (·.pure)) (callF T (ev T n)) (ev T n)
def call (T : Nat → Option F) (n : Nat) : Nat → List U → List Ob → Option (U × List Ob) := callF T (ev T n)
end Go.Proofs.YtfmhnfimkpffnaaGreatDoor.M2
namespace Go.Proofs.YtfmhnfimkpffnaaGreatDoor.M2
open Go
structure En where
  P : Program
  ifs : List TypeId        -- the types of which interface values may be
  glob : List (Nat × List U)     -- what package-level variables hold
structure G where
  w : World
  F : Nat → Prop
  Ft : Nat → Prop
  D : Nat → Prop
  vr : Nat → Value
  vb : Nat → Nat
  len : Nat → Nat
  es : Nat → Nat
def G.ok (g : G) (p : Bool) (b : Nat) : Prop := g.F b ∨ (p = false ∧ g.Ft b)
mutual
def Clo (p : Bool) : U → Prop
  | .bool _ | .int _ _ | .str _ | .nilI | .nilF => True
  | .iface _ u => Clo p u
  | .agg cs => Clos p cs
  | .tup cs => Clos p cs
  | .sl q xs => (p = true → q = true) ∧ Closs q xs
  | .fn _ cs => cs = []
  | _ => False
def Clos (p : Bool) : List U → Prop
  | [] => True
  | u :: us => Clo p u ∧ Clos p us
def Closs (p : Bool) : List (List U) → Prop
  | [] => True
  | x :: xs => Clos p x ∧ Closs p xs
end
def One (vs : List Value) : Prop := ∀ v ∈ vs, v.oneCell' = true
def Cells (g : G) (p : Bool) (b o : Nat) (vs : List Value) : Prop := g.ok p b ∧ One vs ∧ ∀ k v, vs[k]? = some v → g.w.cell? ⟨b, o + k, none⟩ = some v
mutual
def VR (E : En) (g : G) : U → Value → Prop
  | .dead, _ => True
  | .bool b, v => v = .bool b
  | .int k n, v => v = .int k n
  | .str s, v => ∃ x : ByteArray, v = .string x ∧ x.data.toList = s
  | .nilI, v => v = .nilIface
  | .nilF, v => v = .nilFunc
  | .nils, v => v = .slice none 0 0
  | .nilp, v => v = .pointer none
  | .nilm, v => v = .map none
  | .iface t u, v => ∃ x, v = .iface t x ∧ VR E g u x
  | .agg cs, v => ∃ xs : Array Value, v = .agg xs ∧ One xs.toList ∧ VRs E g cs xs.toList
  | .tup cs, v => ∃ xs : Array Value, v = .tuple xs ∧ VRs E g cs xs.toList
  | .sl p xs, v => Closs p xs ∧ ∃ a c, v = .slice a xs.length c ∧ xs.length ≤ c ∧ (xs ≠ [] → ∃ b o es vs, a = some ⟨b, o, none⟩ ∧ Cells g p b o vs ∧ (∀ x ∈ xs, x.length = es) ∧ VRss E g xs vs)
  | .fp cs, v => Clos false cs ∧ ∃ b o vs, v = .pointer (some ⟨b, o, none⟩) ∧ Cells g false b o vs ∧ VRs E g cs vs
  | .own id n, v => (∃ a m c, v = .slice a m c) ∧ g.D id ∧ n ≤ g.len id ∧ (n = g.len id → v = g.vr id)
  | .bp id off, v => g.D id ∧ v = .pointer (some ⟨g.vb id, off, none⟩)
  | .rp id n i off, v => ∃ b o, v = .pointer (some ⟨b, o, none⟩) ∧ g.D id ∧ n ≤ g.len id ∧ (n = g.len id → (g.vr id).ownBlock = some b ∧ o = i * g.es id + off)
  | .bs id off n es, v => g.D id ∧ ∃ c, v = .slice (some ⟨g.vb id, off, none⟩) n c ∧ n ≤ c
  | .mp id, v => g.D id ∧ v = .map (some (g.vb id))
  | .it id, v => g.D id ∧ v = .pointer (some ⟨g.vb id, 0, none⟩)
  | .fn f cs, v => ∃ xs : Array Value, v = .func (.func f) #[] xs ∧ VRs E g cs xs.toList
def VRs (E : En) (g : G) : List U → List Value → Prop
  | [], vs => vs = []
  | u :: us, vs => ∃ v r, vs = v :: r ∧ VR E g u v ∧ VRs E g us r
def VRss (E : En) (g : G) : List (List U) → List Value → Prop
  | [], vs => vs = []
  | x :: xs, vs => ∃ a b, vs = a ++ b ∧ VRs E g x a ∧ VRss E g xs b
end
structure Ext (g g' : G) : Prop where
  F : ∀ b, g.F b → g'.F b
  Ft : ∀ b, g.Ft b → g'.Ft b
  cells : ∀ b, g.ok false b → g'.w.heap[b]? = g.w.heap[b]?
  D : ∀ id, g.D id → g'.D id
  vb : ∀ id, g.D id → g'.vb id = g.vb id
  len : ∀ id, g.D id → g.len id ≤ g'.len id
  vr : ∀ id, g.D id → g'.len id = g.len id → g'.vr id = g.vr id
  es : ∀ id, g.D id → g'.es id = g.es id
theorem Ext.refl (g : G) : Ext g g := ⟨fun _ h => h, fun _ h => h, fun _ _ => rfl, fun _ h => h, fun _ _ => rfl, fun _ _ => Nat.le_refl _, fun _ _ _ => rfl, fun _ _ => rfl⟩
theorem G.ok.ext {g g' : G} (h : Ext g g') {p : Bool} {b : Nat} (k : g.ok p b) : g'.ok p b := k.imp (h.F b) (fun ⟨e, q⟩ => ⟨e, h.Ft b q⟩)
theorem G.ok.any {g : G} {p : Bool} {b : Nat} (k : g.ok p b) : g.ok false b := k.imp id (fun ⟨_, q⟩ => ⟨rfl, q⟩)
theorem Ext.trans {g g' g'' : G} (h : Ext g g') (k : Ext g' g'') : Ext g g'' where
  F b hb := k.F b (h.F b hb)
  Ft b hb := k.Ft b (h.Ft b hb)
  cells b hb := (k.cells b (hb.ext h)).trans (h.cells b hb)
  D id hi := k.D id (h.D id hi)
  vb id hi := (k.vb id (h.D id hi)).trans (h.vb id hi)
  len id hi := Nat.le_trans (h.len id hi) (k.len id (h.D id hi))
  vr id hi he := by
    have h1 := h.len id hi
    have h2 := k.len id (h.D id hi)
    exact (k.vr id (h.D id hi) (by omega)).trans (h.vr id hi (by omega))
  es id hi := (k.es id (h.D id hi)).trans (h.es id hi)
theorem Cells.ext {g g' : G} (h : Ext g g') {p : Bool} {b o : Nat} {vs : List Value} (k : Cells g p b o vs) : Cells g' p b o vs :=
  ⟨k.1.ext h, k.2.1, fun i v hv => (World.cell?_of_block (h.cells b k.1.any)).trans (k.2.2 i v hv)⟩
mutual
theorem VR.ext {E : En} {g g' : G} (h : Ext g g') : ∀ (u : U) (v : Value), VR E g u v → VR E g' u v
  | .dead, _, _ => by simp [VR]
  | .bool b, v, k => by simpa [VR] using k
  | .int _ n, v, k => by simpa [VR] using k
  | .str s, v, k => by simpa [VR] using k
  | .nilI, v, k => by simpa [VR] using k
  | .nilF, v, k => by simpa [VR] using k
  | .nils, v, k => by simpa [VR] using k
  | .nilp, v, k => by simpa [VR] using k
  | .nilm, v, k => by simpa [VR] using k
  | .iface t u, v, k => by
    simp only [VR] at k ⊢
    obtain ⟨x, e, hx⟩ := k
    exact ⟨x, e, VR.ext h u x hx⟩
  | .agg cs, v, k => by
    simp only [VR] at k ⊢
    obtain ⟨x, e, ho, hx⟩ := k
    exact ⟨x, e, ho, VRs.ext h cs _ hx⟩
  | .tup cs, v, k => by
    simp only [VR] at k ⊢
    obtain ⟨x, e, hx⟩ := k
    exact ⟨x, e, VRs.ext h cs _ hx⟩
  | .sl p xs, v, k => by
    simp only [VR] at k ⊢
    obtain ⟨hc, a, c, e, hl, hx⟩ := k
    refine ⟨hc, a, c, e, hl, fun hne => ?_⟩
    obtain ⟨b, o, es, vs, ha, hcl, hes, hv⟩ := hx hne
    exact ⟨b, o, es, vs, ha, hcl.ext h, hes, VRss.ext h xs vs hv⟩
  | .fp cs, v, k => by
    simp only [VR] at k ⊢
    obtain ⟨hc, b, o, vs, e, hcl, hv⟩ := k
    exact ⟨hc, b, o, vs, e, hcl.ext h, VRs.ext h cs vs hv⟩
  | .own id n, v, k => by
    simp only [VR] at k ⊢
    obtain ⟨hs, hd, hl, hv⟩ := k
    have := h.len id hd
    exact ⟨hs, h.D id hd, by omega, fun hn => by rw [hv (by omega)]; exact (h.vr id hd (by omega)).symm⟩
  | .bp id off, v, k => by
    simp only [VR] at k ⊢
    exact ⟨h.D id k.1, by rw [h.vb id k.1]; exact k.2⟩
  | .rp id n i off, v, k => by
    simp only [VR] at k ⊢
    obtain ⟨b, o, hs, hd, hl, hv⟩ := k
    have := h.len id hd
    refine ⟨b, o, hs, h.D id hd, by omega, fun hn => ?_⟩
    rw [h.vr id hd (by omega), h.es id hd]
    exact hv (by omega)
  | .bs id off n es, v, k => by
    simp only [VR] at k ⊢
    exact ⟨h.D id k.1, by rw [h.vb id k.1]; exact k.2⟩
  | .mp id, v, k => by
    simp only [VR] at k ⊢
    exact ⟨h.D id k.1, by rw [h.vb id k.1]; exact k.2⟩
  | .it id, v, k => by
    simp only [VR] at k ⊢
    exact ⟨h.D id k.1, by rw [h.vb id k.1]; exact k.2⟩
  | .fn f cs, v, k => by
    simp only [VR] at k ⊢
    obtain ⟨x, e, hx⟩ := k
    exact ⟨x, e, VRs.ext h cs _ hx⟩
theorem VRs.ext {E : En} {g g' : G} (h : Ext g g') : ∀ (us : List U) (vs : List Value), VRs E g us vs → VRs E g' us vs
  | [], vs, k => by simpa [VRs] using k
  | u :: us, vs, k => by
    simp only [VRs] at k ⊢
    obtain ⟨v, r, e, hv, hr⟩ := k
    exact ⟨v, r, e, VR.ext h u v hv, VRs.ext h us r hr⟩
theorem VRss.ext {E : En} {g g' : G} (h : Ext g g') : ∀ (xs : List (List U)) (vs : List Value), VRss E g xs vs → VRss E g' xs vs
  | [], vs, k => by simpa [VRss] using k
  | x :: xs, vs, k => by
    simp only [VRss] at k ⊢
    obtain ⟨a, b, e, ha, hb⟩ := k
    exact ⟨a, b, e, VRs.ext h x a ha, VRss.ext h xs b hb⟩
end
section
variable {E : En} {g : G}
theorem VRs.length : ∀ {us : List U} {vs : List Value}, VRs E g us vs → us.length = vs.length
  | [], vs, h => by simp [VRs] at h; simp [h]
  | u :: us, vs, h => by
    simp only [VRs] at h
    obtain ⟨v, r, rfl, _, h⟩ := h
    simp [VRs.length h]
theorem VRs_iff : ∀ {us : List U} {vs : List Value}, VRs E g us vs ↔ us.length = vs.length ∧ ∀ (i : Nat) (u : U) (v : Value), us[i]? = some u → vs[i]? = some v → VR E g u v
  | [], vs => by
    simp only [VRs]
    constructor
    · rintro rfl; simp
    · rintro ⟨h, _⟩; exact List.eq_nil_of_length_eq_zero h.symm
  | u :: us, vs => by
    simp only [VRs]
    constructor
    · rintro ⟨v, r, rfl, hv, hr⟩
      rw [VRs_iff] at hr
      refine ⟨by simp [hr.1], fun i u' v' hu hv' => ?_⟩
      cases i with
      | zero => simp at hu hv'; subst hu; subst hv'; exact hv
      | succ i => exact hr.2 i u' v' (by simpa using hu) (by simpa using hv')
    · rintro ⟨hl, h⟩
      cases vs with
      | nil => simp at hl
      | cons v r =>
        refine ⟨v, r, rfl, h 0 u v rfl rfl, ?_⟩
        rw [VRs_iff]
        exact ⟨by simpa using hl, fun i u' v' hu hv' => h (i + 1) u' v' (by simpa using hu) (by simpa using hv')⟩
theorem VRs.get {us : List U} {vs : List Value} (h : VRs E g us vs) {i : Nat} {u : U} (hu : us[i]? = some u) : ∃ v, vs[i]? = some v ∧ VR E g u v := by
  have hi : i < us.length := (List.getElem?_eq_some_iff.1 hu).1
  have hl := h.length
  have hv : vs[i]? = some vs[i] := List.getElem?_eq_getElem (by omega)
  exact ⟨_, hv, (VRs_iff.1 h).2 i _ _ hu hv⟩
theorem VRs.append {us us' : List U} {vs vs' : List Value} (h : VRs E g us vs) (h' : VRs E g us' vs') : VRs E g (us ++ us') (vs ++ vs') := by
  have hl := h.length
  refine VRs_iff.2 ⟨by simp [hl, h'.length], fun i u v hu hv => ?_⟩
  rw [List.getElem?_append] at hu hv
  rw [hl] at hu
  split at hu
  · rename_i hi; rw [if_pos hi] at hv; exact (VRs_iff.1 h).2 i u v hu hv
  · rename_i hi; rw [if_neg hi] at hv; exact (VRs_iff.1 h').2 _ u v hu hv
theorem VRs.take {us : List U} {vs : List Value} (h : VRs E g us vs) (n : Nat) : VRs E g (us.take n) (vs.take n) := by
  refine VRs_iff.2 ⟨by simp [h.length], fun i u v hu hv => ?_⟩
  rw [List.getElem?_take] at hu hv
  split at hu
  · rename_i hi; rw [if_pos hi] at hv; exact (VRs_iff.1 h).2 i u v hu hv
  · cases hu
theorem VRs.drop {us : List U} {vs : List Value} (h : VRs E g us vs) (n : Nat) : VRs E g (us.drop n) (vs.drop n) := by
  refine VRs_iff.2 ⟨by simp [h.length], fun i u v hu hv => ?_⟩
  rw [List.getElem?_drop] at hu hv
  exact (VRs_iff.1 h).2 _ u v hu hv
theorem VRs.split {us us' : List U} {vs : List Value} (h : VRs E g (us ++ us') vs) : ∃ a b, vs = a ++ b ∧ VRs E g us a ∧ VRs E g us' b := by
  refine ⟨vs.take us.length, vs.drop us.length, (List.take_append_drop _ _).symm, ?_, ?_⟩
  · have := h.take us.length; simpa using this
  · have := h.drop us.length; simpa using this
theorem VRss_flat : ∀ {xs : List (List U)} {vs : List Value}, VRss E g xs vs ↔ VRs E g xs.flatten vs
  | [], vs => by simp [VRss, VRs]
  | x :: xs, vs => by
    simp only [VRss, List.flatten_cons]
    constructor
    · rintro ⟨a, b, rfl, ha, hb⟩; exact ha.append (VRss_flat.1 hb)
    · intro h
      obtain ⟨a, b, rfl, ha, hb⟩ := h.split
      exact ⟨a, b, rfl, ha, VRss_flat.2 hb⟩
theorem VRs.replicate {u : U} {v : Value} (h : VR E g u v) (n : Nat) : VRs E g (List.replicate n u) (List.replicate n v) := by
  refine VRs_iff.2 ⟨by simp, fun i a b ha hb => ?_⟩
  simp only [List.getElem?_replicate] at ha hb
  split at ha
  · rename_i hi; rw [if_pos hi] at hb; cases ha; cases hb; exact h
  · cases ha
theorem VRs.sub {us : List U} {vs : List Value} (h : VRs E g us vs) {off n : Nat} {r : List U} (hs : sub us off n = some r) : VRs E g r ((vs.drop off).take n) ∧ off + n ≤ us.length := by
  unfold M2.sub at hs
  split at hs
  · cases hs; exact ⟨(h.drop off).take n, by assumption⟩
  · cases hs
theorem over_eq : ∀ (us cs : List U), us.length ≤ cs.length → over us cs = us ++ cs.drop us.length
  | [], cs, _ => by cases cs <;> simp [over]
  | u :: us, [], h => by simp at h
  | u :: us, c :: cs, h => by simp [over, over_eq us cs (by simpa using h)]
theorem splice_eq : ∀ (cs : List U) (off : Nat) (us : List U), off + us.length ≤ cs.length → splice cs off us = cs.take off ++ us ++ cs.drop (off + us.length)
  | [], 0, us, h => by simp only [splice]; rw [over_eq us _ (by simpa using h)]; simp
  | c :: cs, 0, us, h => by simp only [splice]; rw [over_eq us _ (by simpa using h)]; simp
  | [], n + 1, us, h => by simp at h
  | c :: cs, n + 1, us, h => by
    have := splice_eq cs n us (by simp at h; omega)
    simp only [splice, this, List.take_succ_cons, List.cons_append]
    rw [show n + 1 + us.length = n + us.length + 1 by omega, List.drop_succ_cons]
theorem splice_length (cs : List U) (off : Nat) (us : List U) (h : off + us.length ≤ cs.length) : (splice cs off us).length = cs.length := by
  rw [splice_eq cs off us h]; simp; omega
theorem VRs.splice {cs us : List U} {vs ws : List Value} {off : Nat} (h : VRs E g cs vs) (k : VRs E g us ws) (hl : off + us.length ≤ cs.length) :
    VRs E g (M2.splice cs off us) (vs.take off ++ ws ++ vs.drop (off + ws.length)) := by
  rw [splice_eq cs off us hl, ← k.length]
  exact ((h.take off).append k).append (h.drop _)
theorem flat_get : ∀ {xs : List (List U)} {es i : Nat} {x : List U}, (∀ x ∈ xs, x.length = es) → xs[i]? = some x → (xs.flatten.drop (i * es)).take es = x
  | [], _, i, _, _, h => by simp at h
  | y :: ys, es, 0, x, hu, h => by
    simp at h; subst h
    have := hu y (by simp)
    simp [← this]
  | y :: ys, es, i + 1, x, hu, h => by
    have hy := hu y (by simp)
    have ih := flat_get (xs := ys) (es := es) (i := i) (x := x) (fun z hz => hu z (by simp [hz])) (by simpa using h)
    rw [List.flatten_cons, show (i + 1) * es = y.length + i * es by rw [hy, Nat.add_mul, Nat.one_mul, Nat.add_comm], ← List.drop_drop, List.drop_left]
    exact ih
theorem flat_length : ∀ {xs : List (List U)} {es : Nat}, (∀ x ∈ xs, x.length = es) → xs.flatten.length = xs.length * es
  | [], es, _ => by simp
  | y :: ys, es, hu => by
    rw [List.flatten_cons, List.length_append, flat_length (xs := ys) (fun z hz => hu z (by simp [hz])), hu y (by simp), List.length_cons, Nat.add_mul, Nat.one_mul, Nat.add_comm]
theorem flat_take : ∀ {xs : List (List U)} {es : Nat} (n : Nat), (∀ x ∈ xs, x.length = es) → (xs.take n).flatten = xs.flatten.take (n * es)
  | [], es, n, _ => by simp
  | y :: ys, es, 0, hu => by simp
  | y :: ys, es, n + 1, hu => by
    have hy := hu y (by simp)
    rw [List.take_succ_cons, List.flatten_cons, List.flatten_cons, flat_take n (fun z hz => hu z (by simp [hz])), Nat.add_mul, Nat.one_mul, Nat.add_comm (n * es), List.take_append, hy]
    rw [show es + n * es - es = n * es by omega, List.take_of_length_le (by omega : y.length ≤ es + n * es)]
theorem flat_drop : ∀ {xs : List (List U)} {es : Nat} (n : Nat), (∀ x ∈ xs, x.length = es) → (xs.drop n).flatten = xs.flatten.drop (n * es)
  | [], es, n, _ => by simp
  | y :: ys, es, 0, hu => by simp
  | y :: ys, es, n + 1, hu => by
    have hy := hu y (by simp)
    rw [List.drop_succ_cons, List.flatten_cons, flat_drop n (fun z hz => hu z (by simp [hz])), Nat.add_mul, Nat.one_mul, Nat.add_comm, ← List.drop_drop, ← hy, List.drop_left]
theorem VRss.get {xs : List (List U)} {vs : List Value} {es i : Nat} {x : List U} (h : VRss E g xs vs) (hu : ∀ x ∈ xs, x.length = es) (hx : xs[i]? = some x) : VRs E g x ((vs.drop (i * es)).take es) := by
  have := ((VRss_flat.1 h).drop (i * es)).take es
  rwa [flat_get hu hx] at this
theorem flat_set : ∀ {xs : List (List U)} {es i : Nat} {x : List U}, (∀ x ∈ xs, x.length = es) → x.length = es → i < xs.length → (xs.set i x).flatten = M2.splice xs.flatten (i * es) x
  | [], _, i, _, _, _, h => by simp at h
  | y :: ys, es, 0, x, hu, hx, h => by
    have := hu y (by simp)
    rw [splice_eq _ _ _ (by simp; omega)]
    simp [hx, ← this]
  | y :: ys, es, i + 1, x, hu, hx, h => by
    have hy := hu y (by simp)
    have hus : ∀ z ∈ ys, z.length = es := fun z hz => hu z (by simp [hz])
    have hi : i < ys.length := by simpa using h
    have ih := flat_set (xs := ys) (es := es) (i := i) (x := x) hus hx hi
    have hle : i * es + es ≤ ys.length * es := by rw [← Nat.succ_mul]; exact Nat.mul_le_mul_right _ hi
    have hfl := flat_length hus
    have e1 : (i + 1) * es = y.length + i * es := by rw [hy, Nat.add_mul, Nat.one_mul, Nat.add_comm]
    rw [List.set_cons_succ, List.flatten_cons, List.flatten_cons, ih, splice_eq _ _ _ (by omega), splice_eq _ _ _ (by rw [List.length_append]; omega), e1]
    rw [List.take_append, List.drop_append, Nat.add_sub_cancel_left, List.take_of_length_le (by omega : y.length ≤ _), List.drop_of_length_le (by omega : y.length ≤ _)]
    rw [show y.length + i * es + x.length - y.length = i * es + x.length by omega]
    simp
theorem cells_of_VR {u : U} {v : Value} {cs : List U} (h : VR E g u v) (hc : cellsO u = some cs) : VRs E g cs v.cells.toList := by
  cases u <;> simp only [cellsO, Option.some.injEq, reduceCtorEq] at hc
  case agg us =>
    subst hc
    simp only [VR] at h
    obtain ⟨xs, rfl, _, h⟩ := h
    simpa [Value.cells] using h
  all_goals
    subst hc
    have hk := h
    simp only [VRs]
    refine ⟨v, [], ?_, h, rfl⟩
    simp only [VR] at hk
  case bool => subst hk; rfl
  case int => subst hk; rfl
  case str => obtain ⟨x, rfl, _⟩ := hk; rfl
  case nilI => subst hk; rfl
  case nilF => subst hk; rfl
  case nils => subst hk; rfl
  case nilp => subst hk; rfl
  case nilm => subst hk; rfl
  case iface => obtain ⟨x, rfl, _⟩ := hk; rfl
  case sl => obtain ⟨_, a, c, rfl, _⟩ := hk; rfl
  case fp => obtain ⟨_, b, o, vs, rfl, _⟩ := hk; rfl
  case bp => rw [hk.2]; rfl
  case bs => obtain ⟨_, c, rfl, _⟩ := hk; rfl
  case mp => rw [hk.2]; rfl
  case it => rw [hk.2]; rfl
  case fn => obtain ⟨x, rfl, _⟩ := hk; rfl
  case own => obtain ⟨⟨a, m, c, rfl⟩, _⟩ := hk; rfl
  case rp => obtain ⟨b, o, rfl, _⟩ := hk; rfl
theorem one_of_VR {u : U} {v : Value} {cs : List U} (h : VR E g u v) (hc : cellsO u = some cs) : One v.cells.toList := by
  cases u <;> simp only [cellsO, Option.some.injEq, reduceCtorEq] at hc
  case agg us =>
    simp only [VR] at h
    obtain ⟨xs, rfl, h, _⟩ := h
    simpa [Value.cells] using h
  all_goals
    have hk := h
    simp only [VR] at hk
  case bool => subst hk; simp [Value.cells, One, Value.oneCell']
  case int => subst hk; simp [Value.cells, One, Value.oneCell']
  case str => obtain ⟨x, rfl, _⟩ := hk; simp [Value.cells, One, Value.oneCell']
  case nilI => subst hk; simp [Value.cells, One, Value.oneCell']
  case nilF => subst hk; simp [Value.cells, One, Value.oneCell']
  case nils => subst hk; simp [Value.cells, One, Value.oneCell']
  case nilp => subst hk; simp [Value.cells, One, Value.oneCell']
  case nilm => subst hk; simp [Value.cells, One, Value.oneCell']
  case iface => obtain ⟨x, rfl, _⟩ := hk; simp [Value.cells, One, Value.oneCell']
  case sl => obtain ⟨_, a, c, rfl, _⟩ := hk; simp [Value.cells, One, Value.oneCell']
  case fp => obtain ⟨_, b, o, vs, rfl, _⟩ := hk; simp [Value.cells, One, Value.oneCell']
  case bp => rw [hk.2]; simp [Value.cells, One, Value.oneCell']
  case bs => obtain ⟨_, c, rfl, _⟩ := hk; simp [Value.cells, One, Value.oneCell']
  case mp => rw [hk.2]; simp [Value.cells, One, Value.oneCell']
  case it => rw [hk.2]; simp [Value.cells, One, Value.oneCell']
  case fn => obtain ⟨x, rfl, _⟩ := hk; simp [Value.cells, One, Value.oneCell']
  case own => obtain ⟨⟨a, m, c, rfl⟩, _⟩ := hk; simp [Value.cells, One, Value.oneCell']
  case rp => obtain ⟨b, o, rfl, _⟩ := hk; simp [Value.cells, One, Value.oneCell']
end
def Keeps (p : Bool) (g g' : G) : Prop := ∀ q b, (p = true → q = true) → g.ok q b → g'.ok q b ∧ g'.w.heap[b]? = g.w.heap[b]?
theorem Keeps.mono {p q : Bool} {g g' : G} (h : Keeps p g g') (hpq : p = true → q = true) : Keeps q g g' := fun r b hr hb => h r b (fun hp => hr (hpq hp)) hb
theorem Ext.keeps {g g' : G} (h : Ext g g') (p : Bool) : Keeps p g g' := fun q b _ hb => ⟨hb.ext h, h.cells b hb.any⟩
section
variable {E : En}
mutual
theorem VR.clo {p : Bool} {g g' : G} (h : Keeps p g g') : ∀ (u : U) (v : Value), Clo p u → VR E g u v → VR E g' u v
  | .dead, _, _, _ => by simp [VR]
  | .bool b, v, _, k => by simpa [VR] using k
  | .int _ n, v, _, k => by simpa [VR] using k
  | .str s, v, _, k => by simpa [VR] using k
  | .nilI, v, _, k => by simpa [VR] using k
  | .nilF, v, _, k => by simpa [VR] using k
  | .nils, v, c, k => by simp [Clo] at c
  | .nilp, v, c, k => by simp [Clo] at c
  | .nilm, v, c, k => by simp [Clo] at c
  | .iface t u, v, c, k => by
    simp only [VR, Clo] at k c ⊢
    obtain ⟨x, e, hx⟩ := k
    exact ⟨x, e, VR.clo h u x c hx⟩
  | .agg cs, v, c, k => by
    simp only [VR, Clo] at k c ⊢
    obtain ⟨x, e, ho, hx⟩ := k
    exact ⟨x, e, ho, VRs.clo h cs _ c hx⟩
  | .tup cs, v, c, k => by
    simp only [VR, Clo] at k c ⊢
    obtain ⟨x, e, hx⟩ := k
    exact ⟨x, e, VRs.clo h cs _ c hx⟩
  | .sl q xs, v, c, k => by
    simp only [VR, Clo] at k c ⊢
    obtain ⟨hc, a, n, e, hl, hx⟩ := k
    refine ⟨hc, a, n, e, hl, fun hne => ?_⟩
    obtain ⟨b, o, es, vs, ha, hcl, hes, hv⟩ := hx hne
    have hb := h q b c.1 hcl.1
    exact ⟨b, o, es, vs, ha, ⟨hb.1, hcl.2.1, fun i v hv => (World.cell?_of_block hb.2).trans (hcl.2.2 i v hv)⟩, hes, VRss.clo (h.mono c.1) xs vs c.2 hv⟩
  | .fp cs, v, c, k => by simp [Clo] at c
  | .own id n, v, c, k => by simp [Clo] at c
  | .bp id off, v, c, k => by simp [Clo] at c
  | .rp id n i off, v, c, k => by simp [Clo] at c
  | .bs id off n es, v, c, k => by simp [Clo] at c
  | .mp id, v, c, k => by simp [Clo] at c
  | .it id, v, c, k => by simp [Clo] at c
  | .fn f cs, v, c, k => by
    simp only [VR, Clo] at k c ⊢
    obtain ⟨x, e, hx⟩ := k
    subst c
    exact ⟨x, e, by simpa [VRs] using hx⟩
theorem VRs.clo {p : Bool} {g g' : G} (h : Keeps p g g') : ∀ (us : List U) (vs : List Value), Clos p us → VRs E g us vs → VRs E g' us vs
  | [], vs, _, k => by simpa [VRs] using k
  | u :: us, vs, c, k => by
    simp only [VRs, Clos] at k c ⊢
    obtain ⟨v, r, e, hv, hr⟩ := k
    exact ⟨v, r, e, VR.clo h u v c.1 hv, VRs.clo h us r c.2 hr⟩
theorem VRss.clo {p : Bool} {g g' : G} (h : Keeps p g g') : ∀ (xs : List (List U)) (vs : List Value), Closs p xs → VRss E g xs vs → VRss E g' xs vs
  | [], vs, _, k => by simpa [VRss] using k
  | x :: xs, vs, c, k => by
    simp only [VRss, Closs] at k c ⊢
    obtain ⟨a, b, e, ha, hb⟩ := k
    exact ⟨a, b, e, VRs.clo h x a c.1 ha, VRss.clo h xs b c.2 hb⟩
end
mutual
theorem Clo.weak : ∀ (u : U), Clo true u → Clo false u
  | .bool _, _ | .int _ _, _ | .str _, _ | .nilI, _ | .nilF, _ => by simp [Clo]
  | .iface t u, h => by simp only [Clo] at h ⊢; exact Clo.weak u h
  | .agg cs, h => by simp only [Clo] at h ⊢; exact Clos.weak cs h
  | .tup cs, h => by simp only [Clo] at h ⊢; exact Clos.weak cs h
  | .sl q xs, h => by simp only [Clo] at h ⊢; exact ⟨(fun e => by cases e), h.2⟩
  | .fn f cs, h => by simp only [Clo] at h ⊢; exact h
  | .dead, h | .nils, h | .nilp, h | .nilm, h | .fp _, h | .own _ _, h | .bp _ _, h | .rp _ _ _ _, h | .bs _ _ _ _, h | .mp _, h | .it _, h => by simp [Clo] at h
theorem Clos.weak : ∀ (us : List U), Clos true us → Clos false us
  | [], _ => by simp [Clos]
  | u :: us, h => by simp only [Clos] at h ⊢; exact ⟨Clo.weak u h.1, Clos.weak us h.2⟩
end
theorem Closs.weak : ∀ (xs : List (List U)), Closs true xs → Closs false xs
  | [], _ => by simp [Closs]
  | x :: xs, h => by simp only [Closs] at h ⊢; exact ⟨Clos.weak x h.1, Closs.weak xs h.2⟩
theorem Clos_iff {p : Bool} : ∀ {us : List U}, Clos p us ↔ ∀ u ∈ us, Clo p u
  | [] => by simp [Clos]
  | u :: us => by simp [Clos, Clos_iff (us := us)]
theorem Closs_iff {p : Bool} : ∀ {xs : List (List U)}, Closs p xs ↔ ∀ x ∈ xs, Clos p x
  | [] => by simp [Closs]
  | x :: xs => by simp [Closs, Closs_iff (xs := xs)]
def OR (E : En) (g : G) (id : Nat) : Ob → Prop
  | .box cs => ∃ vs e, g.w.heap[g.vb id]? = some (.cells vs e (0, 0)) ∧ One vs.toList ∧ VRs E g cs vs.toList
  | .row tag es keep xs => ∃ vs, g.w.ownsRow 0 tag es (g.vr id) xs.length vs ∧ One vs ∧ VRss E g xs vs ∧ (∀ x ∈ xs, x.length = es) ∧ g.len id = xs.length ∧ g.es id = es ∧ (keep = false → Closs true xs) ∧ 0 < es
  | .frow xs => VR E g (.sl true xs) (g.vr id) ∧ g.len id = xs.length
  | .map es => ∃ en clock, g.w.heap[g.vb id]? = some (.map en clock) ∧ en.size = es.length ∧ (∀ k v, (k, v) ∈ es → Clo true k ∧ Clo true v) ∧ ∀ (i : Nat) (k v : U) (e : MapEntry), es[i]? = some (k, v) → en[i]? = some e → VR E g k e.key ∧ VR E g v e.val
  | .iter s pos => ∃ x : ByteArray, g.w.heap[g.vb id]? = some (.stringIter x pos) ∧ x.data.toList = s
  | .hole => True
def blk (g : G) (id : Nat) : Ob → Option Nat
  | .row .. => (g.vr id).ownBlock
  | .frow _ | .hole => none
  | _ => some (g.vb id)
structure SR (E : En) (g : G) (st : List Ob) : Prop where
  dom : ∀ (id : Nat), g.D id ↔ ∃ o, st[id]? = some o ∧ o.real = true
  ob : ∀ (id : Nat) o, st[id]? = some o → OR E g id o
  fr : ∀ (id : Nat) o b, st[id]? = some o → blk g id o = some b → ¬ g.ok false b ∧ b < g.w.heap.size
  ne : ∀ (i j : Nat) o o' b, st[i]? = some o → st[j]? = some o' → blk g i o = some b → blk g j o' = some b → i = j
  lt : ∀ b, g.ok false b → b < g.w.heap.size
def Mut (g : G) (st : List Ob) (b : Nat) : Prop := ∃ (id : Nat) (o : Ob), st[id]? = some o ∧ blk g id o = some b
structure Step (g : G) (st : List Ob) (g' : G) (st' : List Ob) : Prop extends Ext g g' where
  Fnew : ∀ b, g'.F b → g.F b ∨ Mut g st b ∨ g.w.heap.size ≤ b
  Fteq : ∀ b, g'.Ft b → g.Ft b
  old : ∀ b, b < g.w.heap.size → ¬ Mut g st b → g'.w.heap[b]? = g.w.heap[b]?
  mt : ∀ b, Mut g' st' b → Mut g st b ∨ g.w.heap.size ≤ b
  size : g.w.heap.size ≤ g'.w.heap.size
  os : g'.w.os = g.w.os
  tape : g'.w.tape = g.w.tape
  output : g'.w.output = g.w.output
  stl : st.length ≤ st'.length
theorem Step.refl (g : G) (st : List Ob) : Step g st g st :=
  { Ext.refl g with Fnew := fun _ h => .inl h, Fteq := fun _ h => h, old := fun _ _ _ => rfl, mt := fun _ h => .inl h, size := Nat.le_refl _, os := rfl, tape := rfl, output := rfl, stl := Nat.le_refl _ }
theorem Step.trans {g g' g'' : G} {st st' st'' : List Ob} (h : Step g st g' st') (k : Step g' st' g'' st'') : Step g st g'' st'' where
  toExt := h.toExt.trans k.toExt
  Fnew b hb := by
    rcases k.Fnew b hb with hb | hb | hb
    · exact h.Fnew b hb
    · exact .inr (h.mt b hb)
    · exact .inr (.inr (Nat.le_trans h.size hb))
  Fteq b hb := h.Fteq b (k.Fteq b hb)
  old b hb hm := by
    refine (k.old b (Nat.lt_of_lt_of_le hb h.size) fun hm' => ?_).trans (h.old b hb hm)
    rcases h.mt b hm' with h1 | h1
    · exact hm h1
    · omega
  mt b hb := by
    rcases k.mt b hb with hb | hb
    · exact h.mt b hb
    · exact .inr (Nat.le_trans h.size hb)
  size := Nat.le_trans h.size k.size
  os := k.os.trans h.os
  tape := k.tape.trans h.tape
  output := k.output.trans h.output
  stl := Nat.le_trans h.stl k.stl
theorem OR.ext {g g' : G} {id : Nat} {o : Ob} (h : Ext g g') (hb : ∀ b, blk g id o = some b → g'.w.heap[b]? = g.w.heap[b]?)
    (hvr : g'.vr id = g.vr id) (hvb : g'.vb id = g.vb id) (hlen : g'.len id = g.len id) (hes : g'.es id = g.es id) (k : OR E g id o) : OR E g' id o := by
  cases o with
  | box cs =>
    obtain ⟨vs, e, hh, h1, hv⟩ := k
    exact ⟨vs, e, by rw [hvb, hb _ rfl]; exact hh, h1, VRs.ext h _ _ hv⟩
  | row tag es keep xs =>
    obtain ⟨vs, hown, h1, hv, hl, hn, he, hk, hpos⟩ := k
    refine ⟨vs, ?_, h1, VRss.ext h _ _ hv, hl, by rw [hlen]; exact hn, by rw [hes]; exact he, hk, hpos⟩
    rw [hvr]
    refine ⟨hown.1, ?_⟩
    rcases hown.2 with h0 | ⟨b, cap, cur, hv', hb', hh, rest⟩
    · exact .inl h0
    · exact .inr ⟨b, cap, cur, hv', hb', by rw [hb b (by simp [blk, hv', Value.ownBlock])]; exact hh, rest⟩
  | frow xs => exact ⟨by rw [hvr]; exact VR.ext h _ _ k.1, by rw [hlen]; exact k.2⟩
  | map es =>
    obtain ⟨en, clock, hh, hs, hc, hv⟩ := k
    exact ⟨en, clock, by rw [hvb, hb _ rfl]; exact hh, hs, hc, fun i k v e h1 h2 => ⟨VR.ext h _ _ (hv i k v e h1 h2).1, VR.ext h _ _ (hv i k v e h1 h2).2⟩⟩
  | iter s pos =>
    obtain ⟨x, hh, hs⟩ := k
    exact ⟨x, by rw [hvb, hb _ rfl]; exact hh, hs⟩
  | hole => trivial
theorem blk_eq {g g' : G} {id : Nat} {o : Ob} (hvr : g'.vr id = g.vr id) (hvb : g'.vb id = g.vb id) : blk g' id o = blk g id o := by
  cases o <;> simp [blk, hvr, hvb]
theorem SR.world {g : G} {st : List Ob} (h : SR E g st) {w' : World} (hg : g.w.grownBy w' none) :
    Step g st { g with w := w' } st ∧ SR E { g with w := w' } st := by
  have hext : Ext g { g with w := w' } := { Ext.refl g with cells := fun b hb => hg.block b (h.lt b hb) (by simp) }
  refine ⟨{ hext with Fnew := fun _ h => .inl h, Fteq := fun _ h => h, old := fun b hb _ => hg.block b hb (by simp), mt := fun _ h => .inl h, size := hg.size, os := hg.os, tape := hg.tape, output := hg.output, stl := Nat.le_refl _ }, ?_⟩
  exact ⟨h.dom, fun id o ho => OR.ext hext (fun b hb => hg.block b (h.fr id o b ho hb).2 (by simp)) rfl rfl rfl rfl (h.ob id o ho),
    fun id o b ho hb => ⟨(h.fr id o b ho hb).1, Nat.lt_of_lt_of_le (h.fr id o b ho hb).2 hg.size⟩, h.ne, fun b hb => Nat.lt_of_lt_of_le (h.lt b hb) hg.size⟩
def upd {α : Type} (f : Nat → α) (i : Nat) (x : α) : Nat → α := fun j => if j = i then x else f j
theorem upd_same {α : Type} (f : Nat → α) (i : Nat) (x : α) : upd f i x i = x := by simp [upd]
theorem upd_other {α : Type} (f : Nat → α) (i j : Nat) (x : α) (h : j ≠ i) : upd f i x j = f j := by simp [upd, h]
def G.add (g : G) (id : Nat) (w' : World) (v : Value) (b n es : Nat) : G :=
  { w := w', F := g.F, Ft := g.Ft, D := fun i => g.D i ∨ i = id, vr := upd g.vr id v, vb := upd g.vb id b, len := upd g.len id n, es := upd g.es id es }
theorem SR.fill {g : G} {st : List Ob} (h : SR E g st) {nid : Nat} (hn : st[nid]? = some .hole) {w' : World} (hg : g.w.grownBy w' none) (v : Value) (b n es : Nat) (o : Ob) (hr : o.real = true)
    (ho : Ext g (g.add nid w' v b n es) → OR E (g.add nid w' v b n es) nid o)
    (hb : ∀ c, blk (g.add nid w' v b n es) nid o = some c → g.w.heap.size ≤ c ∧ c < w'.heap.size) :
    Step g st (g.add nid w' v b n es) (st.set nid o) ∧ SR E (g.add nid w' v b n es) (st.set nid o) := by
  have hlt : nid < st.length := (List.getElem?_eq_some_iff.1 hn).1
  have hnd : ∀ id, g.D id → id ≠ nid := by
    intro id hd e
    obtain ⟨o', h1, h2⟩ := (h.dom id).1 hd
    subst e
    rw [hn] at h1
    cases h1
    cases h2
  have hext : Ext g (g.add nid w' v b n es) :=
    { F := fun _ h => h, Ft := fun _ h => h, cells := fun b hb => hg.block b (h.lt b hb) (by simp), D := fun _ h => .inl h,
      vb := fun id hd => upd_other _ _ _ _ (hnd id hd), len := fun id hd => by simp [G.add, upd_other _ _ _ _ (hnd id hd)],
      vr := fun id hd _ => upd_other _ _ _ _ (hnd id hd), es := fun id hd => upd_other _ _ _ _ (hnd id hd) }
  have hcase : ∀ (id : Nat) o', (st.set nid o)[id]? = some o' → (id ≠ nid ∧ st[id]? = some o') ∨ (id = nid ∧ o' = o) := by
    intro id o' ho'
    by_cases hj : id = nid
    · subst hj; simp [hlt] at ho'; exact .inr ⟨rfl, ho'.symm⟩
    · rw [List.getElem?_set_ne (Ne.symm hj)] at ho'; exact .inl ⟨hj, ho'⟩
  have hblk : ∀ (id : Nat) o', id ≠ nid → blk (g.add nid w' v b n es) id o' = blk g id o' := fun id o' ho' => blk_eq (upd_other _ _ _ _ ho') (upd_other _ _ _ _ ho')
  refine ⟨{ hext with Fnew := fun _ h => .inl h, Fteq := fun _ h => h, old := fun b hb _ => hg.block b hb (by simp), mt := ?_, size := hg.size, os := hg.os, tape := hg.tape, output := hg.output, stl := by simp }, ?_⟩
  · rintro c ⟨id, o', ho', hc⟩
    rcases hcase id o' ho' with ⟨hj, h1⟩ | ⟨e1, e2⟩
    · rw [hblk id o' hj] at hc; exact .inl ⟨id, o', h1, hc⟩
    · subst e1; subst e2; exact .inr (hb c hc).1
  · refine ⟨fun id => ?_, fun id o' ho' => ?_, fun id o' c ho' hc => ?_, fun i j o1 o2 c h1 h2 hc1 hc2 => ?_, fun c hc => Nat.lt_of_lt_of_le (h.lt c hc) hg.size⟩
    · show g.D id ∨ id = nid ↔ _
      rw [h.dom id]
      by_cases hj : id = nid
      · subst hj; simp [hlt, hr]
      · rw [List.getElem?_set_ne (Ne.symm hj)]; simp [hj]
    · rcases hcase id o' ho' with ⟨hj, h1⟩ | ⟨e1, e2⟩
      · exact OR.ext hext (fun c hc => hg.block c (h.fr id o' c h1 hc).2 (by simp)) (upd_other _ _ _ _ hj) (upd_other _ _ _ _ hj) (upd_other _ _ _ _ hj) (upd_other _ _ _ _ hj) (h.ob id o' h1)
      · subst e1; subst e2; exact ho hext
    · rcases hcase id o' ho' with ⟨hj, h1⟩ | ⟨e1, e2⟩
      · rw [hblk id o' hj] at hc
        exact ⟨(h.fr id o' c h1 hc).1, Nat.lt_of_lt_of_le (h.fr id o' c h1 hc).2 hg.size⟩
      · subst e1; subst e2
        exact ⟨fun hk => by have := h.lt c hk; have := (hb c hc).1; omega, (hb c hc).2⟩
    · rcases hcase i o1 h1 with ⟨hi, g1⟩ | ⟨e1, e1'⟩ <;> rcases hcase j o2 h2 with ⟨hj, g2⟩ | ⟨e2, e2'⟩
      · rw [hblk i o1 hi] at hc1; rw [hblk j o2 hj] at hc2
        exact h.ne i j o1 o2 c g1 g2 hc1 hc2
      · subst e2; subst e2'
        rw [hblk i o1 hi] at hc1
        have := (h.fr i o1 c g1 hc1).2; have := (hb c hc2).1; omega
      · subst e1; subst e1'
        rw [hblk j o2 hj] at hc2
        have := (h.fr j o2 c g2 hc2).2; have := (hb c hc1).1; omega
      · exact e1.trans e2.symm
theorem SR.hole {g : G} {st : List Ob} (h : SR E g st) : Step g st g (st ++ [.hole]) ∧ SR E g (st ++ [.hole]) := by
  have hcase : ∀ (id : Nat) o', (st ++ [Ob.hole])[id]? = some o' → st[id]? = some o' ∨ o' = .hole := by
    intro id o' ho'
    rw [List.getElem?_append] at ho'
    split at ho'
    · exact .inl ho'
    · exact .inr (by have := List.mem_of_getElem? ho'; simpa using this)
  refine ⟨{ Ext.refl g with Fnew := fun _ h => .inl h, Fteq := fun _ h => h, old := fun _ _ _ => rfl, mt := ?_, size := Nat.le_refl _, os := rfl, tape := rfl, output := rfl, stl := by simp }, ?_⟩
  · rintro c ⟨id, o', ho', hc⟩
    rcases hcase id o' ho' with h1 | rfl
    · exact .inl ⟨id, o', h1, hc⟩
    · simp [blk] at hc
  · refine ⟨fun id => ?_, fun id o' ho' => ?_, fun id o' c ho' hc => ?_, fun i j o1 o2 c h1 h2 hc1 hc2 => ?_, h.lt⟩
    · rw [h.dom id]
      constructor
      · rintro ⟨o, h1, h2⟩; exact ⟨o, by rw [List.getElem?_append_left (List.getElem?_eq_some_iff.1 h1).1]; exact h1, h2⟩
      · rintro ⟨o, h1, h2⟩
        rcases hcase id o h1 with h1 | rfl
        · exact ⟨o, h1, h2⟩
        · cases h2
    · rcases hcase id o' ho' with h1 | rfl
      · exact h.ob id o' h1
      · trivial
    · rcases hcase id o' ho' with h1 | rfl
      · exact h.fr id o' c h1 hc
      · simp [blk] at hc
    · rcases hcase i o1 h1 with g1 | rfl
      · rcases hcase j o2 h2 with g2 | rfl
        · exact h.ne i j o1 o2 c g1 g2 hc1 hc2
        · simp [blk] at hc2
      · simp [blk] at hc1
theorem SR.holes {g : G} : ∀ {st : List Ob} (n : Nat), SR E g st → Step g st g (st ++ List.replicate n .hole) ∧ SR E g (st ++ List.replicate n .hole)
  | st, 0, h => by simp; exact ⟨Step.refl g st, h⟩
  | st, n + 1, h => by
    have h1 := h.hole
    have h2 := SR.holes n h1.2
    rw [List.replicate_succ]
    simp only [List.append_assoc, List.singleton_append] at h2
    exact ⟨h1.1.trans h2.1, h2.2⟩
theorem SR.new {g : G} {st st' : List Ob} (h : SR E g st) {nid : Nat} {o : Ob} (hn : newOb st nid o = some st') {w' : World} (hg : g.w.grownBy w' none) (v : Value) (b n es : Nat) (hr : o.real = true)
    (ho : Ext g (g.add nid w' v b n es) → OR E (g.add nid w' v b n es) nid o)
    (hb : ∀ c, blk (g.add nid w' v b n es) nid o = some c → g.w.heap.size ≤ c ∧ c < w'.heap.size) :
    Step g st (g.add nid w' v b n es) st' ∧ SR E (g.add nid w' v b n es) st' := by
  unfold newOb at hn
  split at hn
  · rename_i hh
    cases hn
    exact h.fill hh hg v b n es o hr ho hb
  · split at hn
    · rename_i hl
      cases hn
      have h1 := h.hole
      have h2 := h1.2.fill (nid := nid) (by rw [hl]; simp) hg v b n es o hr ho hb
      have e : (st ++ [Ob.hole]).set nid o = st ++ [o] := by rw [hl]; simp
      rw [e] at h2
      exact ⟨h1.1.trans h2.1, h2.2⟩
    · cases hn
  · cases hn
def G.put (g : G) (id : Nat) (w' : World) (v : Value) (n : Nat) : G := { g with w := w', vr := upd g.vr id v, len := upd g.len id n }
theorem SR.put {g : G} {st : List Ob} (h : SR E g st) {id : Nat} {o : Ob} (hid : st[id]? = some o) (hre : o.real = true) {w' : World} (hg : g.w.grownBy w' (blk g id o)) (v : Value) (n : Nat) (o' : Ob) (hre' : o'.real = true)
    (hn : g.len id ≤ n) (hv : n = g.len id → v = g.vr id)
    (ho : Ext g (g.put id w' v n) → OR E (g.put id w' v n) id o')
    (hb : ∀ c, blk (g.put id w' v n) id o' = some c → blk g id o = some c ∨ (g.w.heap.size ≤ c ∧ c < w'.heap.size)) :
    Step g st (g.put id w' v n) (st.set id o') ∧ SR E (g.put id w' v n) (st.set id o') := by
  have hlt : id < st.length := (List.getElem?_eq_some_iff.1 hid).1
  have hext : Ext g (g.put id w' v n) :=
    { Ext.refl g with
      cells := fun b hk => hg.block b (h.lt b hk) (fun e => (h.fr id o b hid e.symm).1 hk)
      len := fun j _ => by
        by_cases hj : j = id
        · subst hj; simp [G.put, upd_same, hn]
        · simp [G.put, upd_other _ _ _ _ hj]
      vr := fun j _ he => by
        by_cases hj : j = id
        · subst hj; simp only [G.put, upd_same] at he ⊢; exact hv he
        · simp [G.put, upd_other _ _ _ _ hj] }
  have hcase : ∀ (j : Nat) o1, (st.set id o')[j]? = some o1 → (j ≠ id ∧ st[j]? = some o1) ∨ (j = id ∧ o1 = o') := by
    intro j o1 h1
    by_cases hj : j = id
    · subst hj; simp [hlt] at h1; exact .inr ⟨rfl, h1.symm⟩
    · rw [List.getElem?_set_ne (Ne.symm hj)] at h1; exact .inl ⟨hj, h1⟩
  have hblk : ∀ (j : Nat) o1, j ≠ id → blk (g.put id w' v n) j o1 = blk g j o1 := fun j o1 hj => blk_eq (upd_other _ _ _ _ hj) rfl
  refine ⟨{ hext with Fnew := fun _ h => .inl h, Fteq := fun _ h => h, old := fun b hb hm => hg.block b hb (fun e => hm ⟨id, o, hid, e.symm⟩), mt := ?_, size := hg.size, os := hg.os, tape := hg.tape, output := hg.output, stl := by simp }, ?_⟩
  · rintro c ⟨j, o1, h1, hc⟩
    rcases hcase j o1 h1 with ⟨hj, h1⟩ | ⟨rfl, rfl⟩
    · rw [hblk j o1 hj] at hc; exact .inl ⟨j, o1, h1, hc⟩
    · rcases hb c hc with hc | hc
      · exact .inl ⟨j, o, hid, hc⟩
      · exact .inr hc.1
  · refine ⟨fun j => by
      show g.D j ↔ _
      rw [h.dom j]
      by_cases hj : j = id
      · subst hj; exact ⟨fun _ => ⟨o', by simp [hlt], hre'⟩, fun _ => ⟨o, hid, hre⟩⟩
      · rw [List.getElem?_set_ne (Ne.symm hj)], fun j o1 h1 => ?_, fun j o1 c h1 hc => ?_, fun i j o1 o2 c h1 h2 hc1 hc2 => ?_, fun c hc => Nat.lt_of_lt_of_le (h.lt c hc) hg.size⟩
    · rcases hcase j o1 h1 with ⟨hj, h1⟩ | ⟨rfl, rfl⟩
      · refine OR.ext hext (fun c hc => hg.block c (h.fr j o1 c h1 hc).2 (fun e => hj (h.ne j id o1 o c h1 hid hc e.symm))) (upd_other _ _ _ _ hj) rfl (upd_other _ _ _ _ hj) rfl (h.ob j o1 h1)
      · exact ho hext
    · rcases hcase j o1 h1 with ⟨hj, h1⟩ | ⟨rfl, rfl⟩
      · rw [hblk j o1 hj] at hc
        exact ⟨(h.fr j o1 c h1 hc).1, Nat.lt_of_lt_of_le (h.fr j o1 c h1 hc).2 hg.size⟩
      · rcases hb c hc with hc | hc
        · exact ⟨(h.fr j o c hid hc).1, Nat.lt_of_lt_of_le (h.fr j o c hid hc).2 hg.size⟩
        · exact ⟨fun hk => by have := h.lt c hk; omega, hc.2⟩
    · rcases hcase i o1 h1 with ⟨hi, g1⟩ | ⟨e1, e1'⟩ <;> rcases hcase j o2 h2 with ⟨hj, g2⟩ | ⟨e2, e2'⟩
      · rw [hblk i o1 hi] at hc1; rw [hblk j o2 hj] at hc2
        exact h.ne i j o1 o2 c g1 g2 hc1 hc2
      · subst e2; subst e2'
        rw [hblk i o1 hi] at hc1
        rcases hb c hc2 with hc | hc
        · exact h.ne i j o1 o c g1 hid hc1 hc
        · have := (h.fr i o1 c g1 hc1).2; omega
      · subst e1; subst e1'
        rw [hblk j o2 hj] at hc2
        rcases hb c hc1 with hc | hc
        · exact h.ne i j o o2 c hid g2 hc hc2
        · have := (h.fr j o2 c g2 hc2).2; omega
      · exact e1.trans e2.symm
end
section
variable {E : En}
theorem accM_length {α : Type} (f : List Ob → α → Option (α × List Ob)) : ∀ (xs : List α) (st : List Ob) (ys : List α) (st' : List Ob), accM f st xs = some (ys, st') → ys.length = xs.length
  | [], st, ys, st', h => by simp [accM] at h; simp [← h.1]
  | x :: xs, st, ys, st', h => by
    simp only [accM, Option.bind_eq_some_iff] at h
    obtain ⟨⟨y, st1⟩, _, ⟨zs, st2⟩, h2, h3⟩ := h
    simp at h3
    rw [← h3.1]
    simp [accM_length f xs st1 zs st2 h2]
def FrzOK {α β : Type} (E : En) (f : List Ob → α → Option (α × List Ob)) (R : G → α → β → Prop) (C : α → Prop) : Prop :=
  ∀ (g : G) (st : List Ob) (x : α) (v : β) (x' : α) (st' : List Ob), SR E g st → R g x v → f st x = some (x', st') →
    ∃ g', Step g st g' st' ∧ SR E g' st' ∧ R g' x' v ∧ C x' ∧ g'.w = g.w ∧ st'.length = st.length
theorem FrzOK.list {f : List Ob → U → Option (U × List Ob)} (hf : FrzOK E f (VR E) (Clo true)) : FrzOK E (accM f) (VRs E) (Clos true) := by
  intro g st xs
  induction xs generalizing g st with
  | nil =>
    intro vs xs' st' h hv he
    simp [accM] at he
    obtain ⟨rfl, rfl⟩ := he
    exact ⟨g, Step.refl g _, h, hv, by simp [Clos], rfl, rfl⟩
  | cons x xs ih =>
    intro vs xs' st' h hv he
    simp only [accM, Option.bind_eq_some_iff] at he
    obtain ⟨⟨y, st1⟩, h1, ⟨ys, st2⟩, h2, h3⟩ := he
    simp at h3
    obtain ⟨rfl, rfl⟩ := h3
    simp only [VRs] at hv
    obtain ⟨v, r, rfl, hv, hr⟩ := hv
    obtain ⟨g1, s1, r1, v1, c1, w1, l1⟩ := hf g st x v y st1 h hv h1
    obtain ⟨g2, s2, r2, v2, c2, w2, l2⟩ := ih g1 st1 r ys st2 r1 (VRs.ext s1.toExt _ _ hr) h2
    refine ⟨g2, s1.trans s2, r2, ?_, by simp only [Clos]; exact ⟨c1, c2⟩, w2.trans w1, l2.trans l1⟩
    simp only [VRs]
    exact ⟨v, r, rfl, VR.ext s2.toExt _ _ v1, v2⟩
theorem FrzOK.rows {f : List Ob → List U → Option (List U × List Ob)} (hf : FrzOK E f (VRs E) (Clos true)) : FrzOK E (accM f) (VRss E) (Closs true) := by
  intro g st xs
  induction xs generalizing g st with
  | nil =>
    intro vs xs' st' h hv he
    simp [accM] at he
    obtain ⟨rfl, rfl⟩ := he
    exact ⟨g, Step.refl g _, h, hv, by simp [Closs], rfl, rfl⟩
  | cons x xs ih =>
    intro vs xs' st' h hv he
    simp only [accM, Option.bind_eq_some_iff] at he
    obtain ⟨⟨y, st1⟩, h1, ⟨ys, st2⟩, h2, h3⟩ := he
    simp at h3
    obtain ⟨rfl, rfl⟩ := h3
    simp only [VRss] at hv
    obtain ⟨v, r, rfl, hv, hr⟩ := hv
    obtain ⟨g1, s1, r1, v1, c1, w1, l1⟩ := hf g st x v y st1 h hv h1
    obtain ⟨g2, s2, r2, v2, c2, w2, l2⟩ := ih g1 st1 r ys st2 r1 (VRss.ext s1.toExt _ _ hr) h2
    refine ⟨g2, s1.trans s2, r2, ?_, by simp only [Closs]; exact ⟨c1, c2⟩, w2.trans w1, l2.trans l1⟩
    simp only [VRss]
    exact ⟨v, r, rfl, VRs.ext s2.toExt _ _ v1, v2⟩
theorem accM_rows_len {f : List Ob → U → Option (U × List Ob)} {es : Nat} : ∀ (xs : List (List U)) (st : List Ob) (ys : List (List U)) (st' : List Ob), accM (accM f) st xs = some (ys, st') → (∀ x ∈ xs, x.length = es) → ∀ y ∈ ys, y.length = es
  | [], st, ys, st', h, _ => by simp [accM] at h; intro y hy; rw [h.1] at hy; simp at hy
  | x :: xs, st, ys, st', h, hu => by
    simp only [accM, Option.bind_eq_some_iff] at h
    obtain ⟨⟨y, st1⟩, h1, ⟨zs, st2⟩, h2, h3⟩ := h
    simp at h3
    obtain ⟨rfl, rfl⟩ := h3
    intro z hz
    rcases List.mem_cons.1 hz with rfl | hz
    · rw [accM_length f x st _ st1 h1]; exact hu x (by simp)
    · exact accM_rows_len xs st1 zs st2 h2 (fun w hw => hu w (by simp [hw])) z hz
theorem sl_of_row {g g' : G} {id es : Nat} {e : TypeId} {n : Nat} {vs : List Value} {xs : List (List U)} {p : Bool} (hown : g.w.ownsRow 0 e es (g.vr id) n vs) (hl : xs.length = n) (hes : ∀ x ∈ xs, x.length = es)
    (hc : Closs p xs) (h1 : One vs) (hv : VRss E g' xs vs) (hw : g'.w = g.w) (hok : ∀ b, (g.vr id).ownBlock = some b → g'.ok p b) : VR E g' (.sl p xs) (g.vr id) := by
  simp only [VR]
  refine ⟨hc, ?_⟩
  subst hl
  rcases hown.2 with ⟨h0, hn⟩ | ⟨b, cap, cur, h0, _, hh, hle, _⟩
  · refine ⟨none, 0, by rw [h0, hn], by omega, fun hne => absurd (List.eq_nil_of_length_eq_zero hn) hne⟩
  · refine ⟨some ⟨b, 0, none⟩, cap, h0, hle, fun _ => ⟨b, 0, es, vs, rfl, ⟨hok b (by rw [h0]; rfl), h1, fun k u hu => ?_⟩, hes, hv⟩⟩
    have := hown.cells (g := b) (by rw [h0]; rfl) k u hu
    rw [hw]
    rwa [show (⟨b, 0, none⟩ : Addr).add k = ⟨b, 0 + k, none⟩ by unfold Addr.add; split <;> simp_all] at this
def G.fz (g : G) (id : Nat) : G := { g with F := fun b => g.F b ∨ (g.vr id).ownBlock = some b }
theorem SR.freeze {g : G} {st : List Ob} (h : SR E g st) {id tag es : Nat} {keep : Bool} {xs xs' : List (List U)} (hid : st[id]? = some (.row tag es keep xs)) {vs : List Value}
    (hown : g.w.ownsRow 0 tag es (g.vr id) xs.length vs) (h1 : One vs) (hv : VRss E g xs' vs) (hl : xs'.length = xs.length) (hes : ∀ x ∈ xs', x.length = es) (hc : Closs true xs') (hlen : g.len id = xs.length) :
    Step g st (g.fz id) (st.set id (.frow xs')) ∧ SR E (g.fz id) (st.set id (.frow xs')) ∧ VR E (g.fz id) (.sl true xs') (g.vr id) := by
  have hlt : id < st.length := (List.getElem?_eq_some_iff.1 hid).1
  have hext : Ext g (g.fz id) := { Ext.refl g with F := fun b hb => .inl hb, cells := fun b _ => rfl }
  have hval : VR E (g.fz id) (.sl true xs') (g.vr id) := sl_of_row hown hl hes hc h1 (VRss.ext hext _ _ hv) rfl (fun b hb => .inl (.inr hb))
  have hcase : ∀ (j : Nat) o1, (st.set id (.frow xs'))[j]? = some o1 → (j ≠ id ∧ st[j]? = some o1) ∨ (j = id ∧ o1 = .frow xs') := by
    intro j o1 h1
    by_cases hj : j = id
    · subst hj; simp [hlt] at h1; exact .inr ⟨rfl, h1.symm⟩
    · rw [List.getElem?_set_ne (Ne.symm hj)] at h1; exact .inl ⟨hj, h1⟩
  have hbe : ∀ j o, blk (g.fz id) j o = blk g j o := fun j o => blk_eq rfl rfl
  refine ⟨{ hext with Fnew := fun b hb => ?_, Fteq := fun _ h => h, old := fun _ _ _ => rfl, mt := ?_, size := Nat.le_refl _, os := rfl, tape := rfl, output := rfl, stl := by simp }, ?_, hval⟩
  · rcases hb with hb | hb
    · exact .inl hb
    · exact .inr (.inl ⟨id, _, hid, hb⟩)
  · rintro c ⟨j, o1, h1, hc1⟩
    rw [hbe] at hc1
    rcases hcase j o1 h1 with ⟨hj, h1⟩ | ⟨rfl, rfl⟩
    · exact .inl ⟨j, o1, h1, hc1⟩
    · simp [blk] at hc1
  · refine ⟨fun j => by
      show g.D j ↔ _
      rw [h.dom j]
      by_cases hj : j = id
      · subst hj; exact ⟨fun _ => ⟨.frow xs', by simp [hlt], rfl⟩, fun _ => ⟨_, hid, rfl⟩⟩
      · rw [List.getElem?_set_ne (Ne.symm hj)], fun j o1 h1 => ?_, fun j o1 c h1 hc1 => ?_, fun i j o1 o2 c h1 h2 hc1 hc2 => ?_, fun c hc1 => ?_⟩
    · rcases hcase j o1 h1 with ⟨hj, h1⟩ | ⟨rfl, rfl⟩
      · exact OR.ext hext (fun _ _ => rfl) rfl rfl rfl rfl (h.ob j o1 h1)
      · exact ⟨hval, hlen.trans hl.symm⟩
    · rw [hbe] at hc1
      rcases hcase j o1 h1 with ⟨hj, h1⟩ | ⟨rfl, rfl⟩
      · refine ⟨?_, (h.fr j o1 c h1 hc1).2⟩
        rintro ((hk | hk) | ⟨_, hk⟩)
        · exact (h.fr j o1 c h1 hc1).1 (.inl hk)
        · exact hj (h.ne j id o1 _ c h1 hid hc1 hk)
        · exact (h.fr j o1 c h1 hc1).1 (.inr ⟨rfl, hk⟩)
      · simp [blk] at hc1
    · rw [hbe] at hc1 hc2
      rcases hcase i o1 h1 with ⟨hi, h1⟩ | ⟨rfl, rfl⟩
      · rcases hcase j o2 h2 with ⟨hj, h2⟩ | ⟨rfl, rfl⟩
        · exact h.ne i j o1 o2 c h1 h2 hc1 hc2
        · simp [blk] at hc2
      · simp [blk] at hc1
    · rcases hc1 with (hk | hk) | hk
      · exact h.lt c (.inl hk)
      · exact (h.fr id _ c hid hk).2
      · exact h.lt c (.inr hk)
theorem ownsRow_unique {w : World} {e : TypeId} {es n : Nat} {v : Value} {vs ws : List Value} (h : w.ownsRow 0 e es v n vs) (k : ∃ e' es', es' = es ∧ w.ownsRow 0 e' es' v n ws) : vs = ws := by
  obtain ⟨e', es', rfl, k⟩ := k
  rcases h.2 with ⟨h0, hn⟩ | ⟨b, cap, cur, h0, _, hh, _, _, _, ht⟩
  · subst hn
    rw [List.eq_nil_of_length_eq_zero (show vs.length = 0 by rw [h.1]; simp), List.eq_nil_of_length_eq_zero (show ws.length = 0 by rw [k.1]; simp)]
  · rcases k.2 with ⟨k0, kn⟩ | ⟨b', cap', cur', k0, _, kh, _, _, _, kt⟩
    · rw [h0] at k0; cases k0
    · rw [h0] at k0
      injection k0 with k0
      injection k0 with k0
      injection k0 with k0
      subst k0
      rw [hh] at kh
      injection kh with kh
      injection kh with kh
      subst kh
      rw [← ht, ← kt]
theorem frz_ok : ∀ d, FrzOK E (frz d) (VR E) (Clo true)
  | 0 => fun g st x v x' st' _ _ h => by simp [frz] at h
  | d + 1 => by
    have ih := frz_ok d
    intro g st u v u' st' h hv he
    have stay : ∀ {u : U}, VR E g u v → Clo true u → some (u, st) = some (u', st') → ∃ g', Step g st g' st' ∧ SR E g' st' ∧ VR E g' u' v ∧ Clo true u' ∧ g'.w = g.w ∧ st'.length = st.length := by
      intro u hv hc he
      simp at he
      obtain ⟨rfl, rfl⟩ := he
      exact ⟨g, Step.refl g st, h, hv, hc, rfl, rfl⟩
    cases u <;> simp only [frz] at he
    case bool b => exact stay hv (by simp [Clo]) he
    case int k n => exact stay hv (by simp [Clo]) he
    case str s => exact stay hv (by simp [Clo]) he
    case nilI => exact stay hv (by simp [Clo]) he
    case nilF => exact stay hv (by simp [Clo]) he
    case nils =>
      simp only [VR] at hv
      refine stay (u := .sl true []) ?_ (by simp [Clo, Closs]) he
      simp only [VR]
      exact ⟨by simp [Closs], none, 0, by simpa using hv, by simp, fun hne => absurd rfl hne⟩
    case sl p xs =>
      cases p with
      | false => simp at he
      | true => exact stay hv (by simp only [Clo]; simp only [VR] at hv; exact ⟨by simp, hv.1⟩) he
    case fn f cs =>
      cases cs with
      | nil => exact stay hv (by simp [Clo]) he
      | cons _ _ => simp at he
    case iface t u =>
      simp only [Option.bind_eq_some_iff] at he
      obtain ⟨⟨u1, st1⟩, h1, h2⟩ := he
      simp at h2
      obtain ⟨rfl, rfl⟩ := h2
      simp only [VR] at hv
      obtain ⟨x, e, hx⟩ := hv
      obtain ⟨g', s, r, hx', c, w, l⟩ := ih g st u x u1 st1 h hx h1
      exact ⟨g', s, r, by simp only [VR]; exact ⟨x, e, hx'⟩, by simpa only [Clo] using c, w, l⟩
    case agg cs =>
      simp only [Option.bind_eq_some_iff] at he
      obtain ⟨⟨u1, st1⟩, h1, h2⟩ := he
      simp at h2
      obtain ⟨rfl, rfl⟩ := h2
      simp only [VR] at hv
      obtain ⟨x, e, ho, hx⟩ := hv
      obtain ⟨g', s, r, hx', c, w, l⟩ := ih.list g st cs x.toList u1 st1 h hx h1
      exact ⟨g', s, r, by simp only [VR]; exact ⟨x, e, ho, hx'⟩, by simpa only [Clo] using c, w, l⟩
    case tup cs =>
      simp only [Option.bind_eq_some_iff] at he
      obtain ⟨⟨u1, st1⟩, h1, h2⟩ := he
      simp at h2
      obtain ⟨rfl, rfl⟩ := h2
      simp only [VR] at hv
      obtain ⟨x, e, hx⟩ := hv
      obtain ⟨g', s, r, hx', c, w, l⟩ := ih.list g st cs x.toList u1 st1 h hx h1
      exact ⟨g', s, r, by simp only [VR]; exact ⟨x, e, hx'⟩, by simpa only [Clo] using c, w, l⟩
    case own id n =>
      simp only [VR] at hv
      obtain ⟨_, hd, hle, hv⟩ := hv
      split at he
      · rename_i xs hid
        split at he
        · rename_i hn
          have ho := h.ob id _ hid
          have e1 : v = g.vr id := hv (by rw [ho.2, hn])
          subst e1
          exact stay ho.1 (by have := ho.1; simp only [VR] at this; simp only [Clo]; exact ⟨by simp, this.1⟩) he
        · cases he
      · rename_i tag es xs hid
        split at he
        · rename_i hn
          simp at he
          obtain ⟨rfl, rfl⟩ := he
          obtain ⟨vs, hown, hone, hvs, hes, hlen, hge, hck, hpos⟩ := h.ob id _ hid
          have e1 : v = g.vr id := hv (by rw [hlen, hn])
          subst e1
          obtain ⟨s, r, hval⟩ := h.freeze hid hown hone hvs rfl hes (hck rfl) hlen
          exact ⟨_, s, r, hval, by simp only [Clo]; exact ⟨by simp, hck rfl⟩, rfl, by simp⟩
        · cases he
      · rename_i tag es xs hid
        split at he
        · rename_i hn
          simp only [Option.bind_eq_some_iff] at he
          obtain ⟨⟨ys, st1⟩, h1, h2⟩ := he
          obtain ⟨vs, hown, hone, hvs, hes, hlen, hge, hck, hpos⟩ := h.ob id _ hid
          have e1 : v = g.vr id := hv (by rw [hlen, hn])
          obtain ⟨g1, s1, r1, v1, c1, w1, l1⟩ := ih.list.rows g st xs vs ys st1 h hvs h1
          simp only at h2
          split at h2
          · rename_i tag' es' keep' zs hid'
            split at h2
            · rename_i hn'
              simp at h2
              obtain ⟨rfl, rfl⟩ := h2
              obtain ⟨ws, hown', hone', hvs', hes', hlen', hge', hck', hpos'⟩ := r1.ob id _ hid'
              have hvr : g1.vr id = g.vr id := s1.vr id hd (by rw [hlen', hlen, hn', hn])
              have hee : es' = es := by rw [← hge', ← hge]; exact s1.es id hd
              have hyl := accM_length _ xs st ys st1 h1
              have hws : vs = ws := ownsRow_unique hown ⟨_, es', hee, by rw [← w1, ← hvr, hn, ← hn']; exact hown'⟩
              subst hws
              obtain ⟨s, r, hval⟩ := r1.freeze hid' hown' hone' v1 (by rw [hyl, hn, hn']) (by rw [hee]; exact accM_rows_len xs st ys st1 h1 hes) c1 hlen'
              refine ⟨_, s1.trans s, r, ?_, by simp only [Clo]; exact ⟨by simp, c1⟩, w1, by simp [l1]⟩
              rw [e1, ← hvr]
              exact hval
            · cases h2
          · cases h2
        · cases he
      · cases he
    all_goals simp at he
/-! ### Borrowing -/
def G.sub (g : G) (st : List Ob) : G := { g with Ft := fun b => g.Ft b ∨ Mut g st b, D := fun _ => False }
theorem sub_keeps (g : G) (st : List Ob) (p : Bool) : Keeps p g (g.sub st) := fun _ _ _ hb => ⟨hb.imp id (fun ⟨e, k⟩ => ⟨e, .inl k⟩), rfl⟩
theorem SR.sub {g : G} {st : List Ob} (h : SR E g st) : SR E (g.sub st) [] where
  dom id := by simp [G.sub]
  ob id o ho := by simp at ho
  fr id o b ho := by simp at ho
  ne i j o o' b ho := by simp at ho
  lt b hb := by
    rcases hb with hb | ⟨_, hb | ⟨id, o, ho, hb⟩⟩
    · exact h.lt b (.inl hb)
    · exact h.lt b (.inr ⟨rfl, hb⟩)
    · exact (h.fr id o b ho hb).2
theorem allM_ok {g : G} {st : List Ob} {f : U → Option U} (hf : ∀ u v u', VR E g u v → f u = some u' → VR E (g.sub st) u' v ∧ Clo false u') :
    ∀ (us : List U) (vs : List Value) (us' : List U), VRs E g us vs → allM f us = some us' → VRs E (g.sub st) us' vs ∧ Clos false us' ∧ us'.length = us.length
  | [], vs, us', h, he => by simp [allM] at he; subst he; exact ⟨by simpa only [VRs] using h, by simp [Clos], by simp⟩
  | u :: us, vs, us', h, he => by
    simp only [allM, Option.bind_eq_some_iff] at he
    obtain ⟨y, h1, ys, h2, h3⟩ := he
    simp at h3
    subst h3
    simp only [VRs] at h
    obtain ⟨v, r, rfl, hv, hr⟩ := h
    have a := hf u v y hv h1
    have b := allM_ok hf us r ys hr h2
    refine ⟨?_, by simp only [Clos]; exact ⟨a.2, b.2.1⟩, by simp [b.2.2]⟩
    simp only [VRs]
    exact ⟨v, r, rfl, a.1, b.1⟩
theorem allMM_ok {g : G} {st : List Ob} {f : U → Option U} {es : Nat} (hf : ∀ u v u', VR E g u v → f u = some u' → VR E (g.sub st) u' v ∧ Clo false u') :
    ∀ (xs : List (List U)) (vs : List Value) (xs' : List (List U)), VRss E g xs vs → allM (allM f) xs = some xs' → (∀ x ∈ xs, x.length = es) → VRss E (g.sub st) xs' vs ∧ Closs false xs' ∧ xs'.length = xs.length ∧ ∀ x ∈ xs', x.length = es
  | [], vs, us', h, he, _ => by simp [allM] at he; subst he; exact ⟨by simpa only [VRss] using h, by simp [Closs], by simp, by simp⟩
  | u :: us, vs, us', h, he, hu => by
    simp only [allM, Option.bind_eq_some_iff] at he
    obtain ⟨y, h1, ys, h2, h3⟩ := he
    simp at h3
    subst h3
    simp only [VRss] at h
    obtain ⟨v, r, rfl, hv, hr⟩ := h
    have a := allM_ok hf u v y hv h1
    have b := allMM_ok hf us r ys hr h2 (fun z hz => hu z (by simp [hz]))
    refine ⟨?_, by simp only [Closs]; exact ⟨a.2.1, b.2.1⟩, by simp [b.2.2.1], ?_⟩
    · simp only [VRss]
      exact ⟨v, r, rfl, a.1, b.1⟩
    · intro x hx
      rcases List.mem_cons.1 hx with rfl | hx
      · rw [a.2.2]; exact hu u (by simp)
      · exact b.2.2.2 x hx
theorem brw_ok {g : G} {st : List Ob} (h : SR E g st) : ∀ d u v u', VR E g u v → brw d st u = some u' → VR E (g.sub st) u' v ∧ Clo false u'
  | 0, u, v, u', _, he => by simp [brw] at he
  | d + 1, u, v, u', hv, he => by
    have ih := brw_ok h d
    have stay : ∀ {u : U}, VR E g u v → Clo false u → some u = some u' → VR E (g.sub st) u' v ∧ Clo false u' := by
      intro u hv hc he
      simp at he
      subst he
      exact ⟨VR.clo (sub_keeps g st false) _ _ hc hv, hc⟩
    cases u <;> simp only [brw] at he
    case bool b => exact stay hv (by simp [Clo]) he
    case int k n => exact stay hv (by simp [Clo]) he
    case str s => exact stay hv (by simp [Clo]) he
    case nilI => exact stay hv (by simp [Clo]) he
    case nilF => exact stay hv (by simp [Clo]) he
    case fn f cs =>
      cases cs with
      | nil => exact stay hv (by simp [Clo]) (by simpa [brw] using he)
      | cons _ _ => simp [brw] at he
    case sl p xs => exact stay hv (by simp only [VR] at hv; simp only [Clo]; exact ⟨by simp, hv.1⟩) he
    case nils =>
      simp only [VR] at hv
      refine stay (u := .sl true []) ?_ (by simp [Clo, Closs]) he
      simp only [VR]
      exact ⟨by simp [Closs], none, 0, by simpa using hv, by simp, fun hne => absurd rfl hne⟩
    case iface t u =>
      simp only [Option.bind_eq_some_iff] at he
      obtain ⟨u1, h1, h2⟩ := he
      simp at h2
      subst h2
      simp only [VR] at hv
      obtain ⟨x, e, hx⟩ := hv
      have := ih u x u1 hx h1
      exact ⟨by simp only [VR]; exact ⟨x, e, this.1⟩, by simpa only [Clo] using this.2⟩
    case agg cs =>
      simp only [Option.bind_eq_some_iff] at he
      obtain ⟨u1, h1, h2⟩ := he
      simp at h2
      subst h2
      simp only [VR] at hv
      obtain ⟨x, e, ho, hx⟩ := hv
      have := allM_ok ih cs x.toList u1 hx h1
      exact ⟨by simp only [VR]; exact ⟨x, e, ho, this.1⟩, by simpa only [Clo] using this.2.1⟩
    case own id n =>
      simp only [VR] at hv
      obtain ⟨_, hd, hle, hv⟩ := hv
      split at he
      · rename_i xs hid
        split at he
        · rename_i hn
          have ho := h.ob id _ hid
          have e1 : v = g.vr id := hv (by rw [ho.2, hn])
          subst e1
          exact stay ho.1 (by have := ho.1; simp only [VR] at this; simp only [Clo]; exact ⟨by simp, this.1⟩) he
        · cases he
      · rename_i tag es xs hid
        split at he
        · rename_i hn
          simp at he
          subst he
          obtain ⟨vs, hown, hone, hvs, hes, hlen, hge, hck, hpos⟩ := h.ob id _ hid
          have e1 : v = g.vr id := hv (by rw [hlen, hn])
          subst e1
          have hc := hck rfl
          exact ⟨sl_of_row hown rfl hes (Closs.weak _ hc) hone (VRss.clo (sub_keeps g st true) _ _ hc hvs) rfl (fun b hb => .inr ⟨rfl, .inr ⟨id, _, hid, hb⟩⟩), by simp only [Clo]; exact ⟨by simp, Closs.weak _ hc⟩⟩
        · cases he
      · rename_i tag es xs hid
        split at he
        · rename_i hn
          simp only [Option.bind_eq_some_iff] at he
          obtain ⟨ys, h1, h2⟩ := he
          simp at h2
          subst h2
          obtain ⟨vs, hown, hone, hvs, hes, hlen, hge, hck, hpos⟩ := h.ob id _ hid
          have e1 : v = g.vr id := hv (by rw [hlen, hn])
          subst e1
          obtain ⟨a1, a2, a3, a4⟩ := allMM_ok ih xs vs ys hvs h1 hes
          exact ⟨sl_of_row hown a3 a4 a2 hone a1 rfl (fun b hb => .inr ⟨rfl, .inr ⟨id, _, hid, hb⟩⟩), by simp only [Clo]; exact ⟨by simp, a2⟩⟩
        · cases he
      · cases he
    all_goals simp at he
theorem brw_brwA {d : Nat} {st : List Ob} {u u' : U} (h : brw d st u = some u') : brwA d st u = some u' := by
  cases u <;> first | exact h | skip
  cases d <;> simp [brw] at h
theorem brwA_list {d : Nat} {st : List Ob} : ∀ {us us' : List U}, allM (brw d st) us = some us' → allM (brwA d st) us = some us'
  | [], us', h => h
  | u :: us, us', h => by
    simp only [allM, Option.bind_eq_some_iff] at h ⊢
    obtain ⟨y, h1, ys, h2, h3⟩ := h
    exact ⟨y, brw_brwA h1, ys, brwA_list h2, h3⟩
theorem cell_box {w : World} {b k : Nat} {vs : Array Value} {e : TypeId} {x : Value} (hw : w.heap[b]? = some (.cells vs e (0, 0))) (hk : vs[k]? = some x) : w.cell? ⟨b, k, none⟩ = some x := by
  unfold World.cell?
  simp only [hw]
  simpa using hk
theorem brwA_ok {g : G} {st : List Ob} (h : SR E g st) (d : Nat) (u : U) (v : Value) (u' : U) (hv : VR E g u v) (he : brwA d st u = some u') : VR E (g.sub st) u' v := by
  cases u
  case bp id off =>
    simp only [brwA] at he
    split at he
    · rename_i cs hid
      split at he
      · rename_i hoff
        obtain ⟨ds, h1, rfl⟩ := Option.map_eq_some_iff.1 he
        simp only [VR] at hv
        obtain ⟨hd, rfl⟩ := hv
        obtain ⟨vs, e, hw, hone, hvs⟩ := h.ob id _ hid
        have hsplit : VRs E g (cs.drop off) (vs.toList.drop off) := hvs.drop off
        obtain ⟨k1, k2, k3⟩ := allM_ok (brw_ok h d) _ _ _ hsplit h1
        simp only [VR]
        refine ⟨k2, g.vb id, off, vs.toList.drop off, rfl, ⟨.inr ⟨rfl, .inr ⟨id, _, hid, rfl⟩⟩, fun x hx => hone x (List.mem_of_mem_drop hx), fun k x hk => ?_⟩, k1⟩
        rw [List.getElem?_drop, Array.getElem?_toList] at hk
        exact cell_box hw hk
      · cases he
    · cases he
  all_goals exact (brw_ok h d _ v u' hv he).1
theorem brwAs_ok {g : G} {st : List Ob} (h : SR E g st) (d : Nat) : ∀ (us : List U) (vs : List Value) (us' : List U), VRs E g us vs → allM (brwA d st) us = some us' → VRs E (g.sub st) us' vs ∧ us'.length = us.length
  | [], vs, us', hv, he => by simp [allM] at he; subst he; exact ⟨by simpa only [VRs] using hv, rfl⟩
  | u :: us, vs, us', hv, he => by
    simp only [allM, Option.bind_eq_some_iff] at he
    obtain ⟨y, h1, ys, h2, h3⟩ := he
    simp at h3
    subst h3
    simp only [VRs] at hv
    obtain ⟨v, r, rfl, hv, hr⟩ := hv
    obtain ⟨k1, k2⟩ := brwAs_ok h d us r ys hr h2
    refine ⟨?_, by simp [k2]⟩
    simp only [VRs]
    exact ⟨v, r, rfl, brwA_ok h d u v y hv h1, k1⟩
/-! ### Trimming -/
def G.cut (g : G) (L : Nat) : G := { g with D := fun id => g.D id ∧ id < L }
theorem cut_keeps (g : G) (L : Nat) (p : Bool) : Keeps p g (g.cut L) := fun _ _ _ hb => ⟨hb, rfl⟩
theorem blws_ok {g : G} {L : Nat} {f : U → Bool} (hf : ∀ u v, VR E g u v → f u = true → VR E (g.cut L) u v) : ∀ (us : List U) (vs : List Value), VRs E g us vs → us.all f = true → VRs E (g.cut L) us vs
  | [], vs, h, _ => by simpa only [VRs] using h
  | u :: us, vs, h, he => by
    simp only [List.all_cons, Bool.and_eq_true] at he
    simp only [VRs] at h ⊢
    obtain ⟨v, r, rfl, hv, hr⟩ := h
    exact ⟨v, r, rfl, hf u v hv he.1, blws_ok hf us r hr he.2⟩
theorem blwss_ok {g : G} {L : Nat} {f : U → Bool} (hf : ∀ u v, VR E g u v → f u = true → VR E (g.cut L) u v) : ∀ (us : List (List U)) (vs : List Value), VRss E g us vs → (us.all fun x => x.all f) = true → VRss E (g.cut L) us vs
  | [], vs, h, _ => by simpa only [VRss] using h
  | u :: us, vs, h, he => by
    simp only [List.all_cons, Bool.and_eq_true] at he
    simp only [VRss] at h ⊢
    obtain ⟨v, r, rfl, hv, hr⟩ := h
    exact ⟨v, r, rfl, blws_ok hf u v hv he.1, blwss_ok hf us r hr he.2⟩
theorem blw_ok {g : G} {L : Nat} : ∀ d u v, VR E g u v → blw d L u = true → VR E (g.cut L) u v
  | 0, u, v, _, he => by simp [blw] at he
  | d + 1, u, v, hv, he => by
    have ih := blw_ok (g := g) (L := L) d
    cases u <;> simp only [blw] at he
    case dead => simp [VR]
    case bool => simpa only [VR] using hv
    case int => simpa only [VR] using hv
    case str => simpa only [VR] using hv
    case nilI => simpa only [VR] using hv
    case nilF => simpa only [VR] using hv
    case nils => simpa only [VR] using hv
    case nilp => simpa only [VR] using hv
    case nilm => simpa only [VR] using hv
    case sl p xs => exact VR.clo (cut_keeps g L p) _ _ (by simp only [VR] at hv; simp only [Clo]; exact ⟨id, hv.1⟩) hv
    case fp cs =>
      simp only [VR] at hv ⊢
      obtain ⟨hc, b, o, vs, e, hcl, hv⟩ := hv
      exact ⟨hc, b, o, vs, e, hcl, VRs.clo (cut_keeps g L false) _ _ hc hv⟩
    case iface t u =>
      simp only [VR] at hv ⊢
      obtain ⟨x, e, hx⟩ := hv
      exact ⟨x, e, ih u x hx he⟩
    case agg cs =>
      simp only [VR] at hv ⊢
      obtain ⟨x, e, ho, hx⟩ := hv
      exact ⟨x, e, ho, blws_ok ih _ _ hx he⟩
    case tup cs =>
      simp only [VR] at hv ⊢
      obtain ⟨x, e, hx⟩ := hv
      exact ⟨x, e, blws_ok ih _ _ hx he⟩
    case fn f cs =>
      simp only [VR] at hv ⊢
      obtain ⟨x, e, hx⟩ := hv
      exact ⟨x, e, blws_ok ih _ _ hx he⟩
    case own id n =>
      simp only [VR] at hv ⊢
      exact ⟨hv.1, ⟨hv.2.1, of_decide_eq_true he⟩, hv.2.2⟩
    case rp id n i off =>
      simp only [VR] at hv ⊢
      obtain ⟨b, o, hv⟩ := hv
      exact ⟨b, o, hv.1, ⟨hv.2.1, of_decide_eq_true he⟩, hv.2.2⟩
    case bp id off =>
      simp only [VR] at hv ⊢
      exact ⟨⟨hv.1, of_decide_eq_true he⟩, hv.2⟩
    case bs id off n es =>
      simp only [VR] at hv ⊢
      exact ⟨⟨hv.1, of_decide_eq_true he⟩, hv.2⟩
    case mp id =>
      simp only [VR] at hv ⊢
      exact ⟨⟨hv.1, of_decide_eq_true he⟩, hv.2⟩
    case it id =>
      simp only [VR] at hv ⊢
      exact ⟨⟨hv.1, of_decide_eq_true he⟩, hv.2⟩
theorem SR.cut {g g0 : G} {st st0 : List Ob} (h : SR E g st) (s : Step g0 st0 g st) (h0 : SR E g0 st0) (ho : (st.take st0.length).all (Ob.blw st0.length) = true) :
    Step g0 st0 (g.cut st0.length) (st.take st0.length) ∧ SR E (g.cut st0.length) (st.take st0.length) := by
  have hle := s.stl
  have hsub : ∀ (j : Nat) o, (st.take st0.length)[j]? = some o → st[j]? = some o ∧ j < st0.length := by
    intro j o hj
    rw [List.getElem?_take] at hj
    split at hj
    · exact ⟨hj, by assumption⟩
    · cases hj
  have hbe : ∀ j o, blk (g.cut st0.length) j o = blk g j o := fun j o => blk_eq rfl rfl
  refine ⟨{ F := s.F, Ft := s.Ft, cells := s.cells, D := fun id hd => ⟨s.D id hd, by obtain ⟨o, h1, _⟩ := (h0.dom id).1 hd; exact (List.getElem?_eq_some_iff.1 h1).1⟩, vb := s.vb, len := s.len, vr := s.vr, es := s.es, Fnew := s.Fnew, Fteq := s.Fteq, old := s.old, mt := ?_, size := s.size, os := s.os, tape := s.tape, output := s.output, stl := by simp; omega }, ?_⟩
  · rintro b ⟨j, o, hj, hb⟩
    rw [hbe] at hb
    exact s.mt b ⟨j, o, (hsub j o hj).1, hb⟩
  · refine ⟨fun id => ?_, fun j o hj => ?_, fun j o b hj hb => ?_, fun i j o o' b hi hj hb hb' => ?_, h.lt⟩
    · show g.D id ∧ id < st0.length ↔ _
      rw [h.dom id]
      constructor
      · rintro ⟨⟨o, h1, h2⟩, h3⟩; exact ⟨o, by rw [List.getElem?_take, if_pos h3]; exact h1, h2⟩
      · rintro ⟨o, h1, h2⟩; exact ⟨⟨o, (hsub id o h1).1, h2⟩, (hsub id o h1).2⟩
    · obtain ⟨hj', hlt⟩ := hsub j o hj
      have hb : Ob.blw st0.length o = true := List.all_eq_true.1 ho o (List.mem_of_getElem? hj)
      have hr := h.ob j o hj'
      cases o with
      | box cs =>
        obtain ⟨vs, e, hh, ho1, hv⟩ := hr
        exact ⟨vs, e, hh, ho1, blws_ok (blw_ok blwD) _ _ hv (by simpa [Ob.blw] using hb)⟩
      | row tag es keep xs =>
        obtain ⟨vs, hown, ho1, hv, hl, hn, he, hk, hpos⟩ := hr
        refine ⟨vs, hown, ho1, ?_, hl, hn, he, hk, hpos⟩
        cases keep with
        | false => exact VRss.clo (cut_keeps g _ true) _ _ (hk rfl) hv
        | true => exact blwss_ok (blw_ok blwD) _ _ hv (by simpa only [Ob.blw] using hb)
      | frow xs => exact ⟨VR.clo (cut_keeps g _ true) _ _ (by have := hr.1; simp only [VR] at this; simp only [Clo]; exact ⟨id, this.1⟩) hr.1, hr.2⟩
      | map es =>
        obtain ⟨en, clock, hh, hs, hc, hv⟩ := hr
        refine ⟨en, clock, hh, hs, hc, fun i k v e h1 h2 => ?_⟩
        have hm := hc k v (List.mem_of_getElem? h1)
        exact ⟨VR.clo (cut_keeps g _ true) _ _ hm.1 (hv i k v e h1 h2).1, VR.clo (cut_keeps g _ true) _ _ hm.2 (hv i k v e h1 h2).2⟩
      | iter s pos => exact hr
      | hole => trivial
    · rw [hbe] at hb
      exact h.fr j o b (hsub j o hj).1 hb
    · rw [hbe] at hb hb'
      exact h.ne i j o o' b (hsub i o hi).1 (hsub j o' hj).1 hb hb'
end
section
variable (E : En)
def En.info (t : TypeId) : Option TypeInfo := E.P.info? t
def En.size (t : TypeId) : Option Nat := (E.P.info? t).map (·.size)
def En.isA (t : TypeId) : Option Bool :=
  match E.P.underlying t with
  | some (.struct _) | some (.array _ _) => some true
  | some _ => some false
  | none => none
def En.elem (t : TypeId) : Option TypeId :=
  match E.P.underlying t with
  | some (.slice e) => some e
  | _ => none
def ofVals (f : Value → Option U) : List Value → Option (List U)
  | [] => some []
  | v :: vs => (f v).bind fun u => (ofVals f vs).bind fun us => some (u :: us)
def ofVal : Nat → Value → Option U
  | 0, _ => none
  | d + 1, v =>
    match v with
    | .bool b => some (.bool b)
    | .int k n => some (.int k n)
    | .string s => some (.str s.data.toList)
    | .nilIface => some .nilI
    | .nilFunc => some .nilF
    | .slice none 0 0 => some .nils
    | .pointer none => some .nilp
    | .map none => some .nilm
    | .agg cs => if cs.toList.all (·.oneCell') then (ofVals (ofVal d) cs.toList).map .agg else none
    | .iface t v => (ofVal d v).map (.iface t)
    | .func (.func f) ⟨[]⟩ ⟨[]⟩ => some (.fn f [])
    | _ => none
def valD : Nat := 6
def En.zero (t : TypeId) : Option (List U) := ((E.P.info? t).bind (·.zero)).bind fun z => if z.cells.toList.all (·.oneCell') then ofVals (ofVal valD) z.cells.toList else none
def En.zeroV (t : TypeId) : Option U := ((E.P.info? t).bind (·.zero)).bind (ofVal valD)
def En.opA : Operand → Option A
  | .tmp t => some (.t t)
  | .const v => (ofVal valD v).map .k
  | .global g => (E.glob.lookup g).map fun cs => .k (.fp cs)
  | .func f => some (.k (.fn f []))
def En.opAs : List Operand → Option (List A)
  | [] => some []
  | x :: xs => (E.opA x).bind fun a => (En.opAs xs).bind fun as => some (a :: as)
def En.opO : Option Operand → Option (Option A)
  | none => some none
  | some x => (E.opA x).map some
def En.sh : Nat → TypeId → Option Sh
  | 0, _ => none
  | d + 1, t =>
    match E.P.underlying t with
    | some .bool => some .tb
    | some (.int _) => some .ti
    | some .string => some .ts
    | some (.func _ _ _) => some .tf
    | some (.struct fs) => if E.P.stoodInHeld t then none else (fields (En.sh d) 0 fs.toList).map .tst
    | some (.array n e) => (E.size e).bind fun z => (En.sh d e).map (.tarr n z)
    | some (.interface _) => (alts (En.sh d) E.ifs).map .tifc
    | _ => none
where
  alts (f : TypeId → Option Sh) : List TypeId → Option (List (Nat × Sh))
    | [] => some []
    | a :: as => if (E.P.info? a).any (·.comparable) then (f a).bind fun s => (alts f as).map ((a, s) :: ·) else none
  fields (f : TypeId → Option Sh) (off : Nat) : List Field → Option (List (Nat × Sh))
    | [] => some []
    | x :: xs => if x.name ≠ "_" ∧ x.offset = off then (E.size x.type).bind fun z => (f x.type).bind fun s => (fields f (off + z) xs).map ((z, s) :: ·) else none
def noF : Nat → Sh → Bool
  | 0, _ => false
  | d + 1, s => match s with
    | .tb | .ti | .ts => true
    | .tst fs => fs.all fun p => noF d p.2
    | .tarr _ _ e => noF d e
    | _ => false
structure Hint where
  keep : Bool := false
  own : Option (Nat × Nat × Bool) := none
  owns : List (Nat × Nat × Nat × Bool) := []
def parts1 (E : En) (places : Nat → Option (Nat × Nat)) : List (Nat × Operand) → Option (List (Nat × Nat × A))
  | [] => some []
  | (i, x) :: ps => (places i).bind fun (off, n) => (E.opA x).bind fun a => (parts1 E places ps).map ((off, n, a) :: ·)
def parts2 (E : En) : List (Nat × Operand) → Option (List (Nat × A))
  | [] => some []
  | (i, x) :: ps => (E.opA x).bind fun a => (parts2 E ps).map ((i, a) :: ·)
def placesOf (E : En) (fs : Array Field) (i : Nat) : Option (Nat × Nat) := (fs[i]?).bind fun f => (E.size f.type).map fun z => (f.offset, z)
def comp (h : Hint) (o : Oper) : Option I :=
  match o.op with
  | .move x | .assign x =>
    match h.own, x with
    | some (tag, es, keep), .const (.slice none 0 0) => if 0 < es then some (.ownnil tag es keep) else none
    | _, _ => (E.opA x).map .mov
  | .pick c a b => (E.opA c).bind fun c => (E.opA a).bind fun a => (E.opA b).map fun b => .pick c a b
  | .alloc t => (E.zero t).bind fun z =>
    match h.owns with
    | [] => some (.alloc z)
    | os => if os.all (fun p => (match z[p.1]? with | some .nils => true | _ => false) && decide (0 < p.2.2.1)) then some (.allocOwn z os) else none
  | .box _ x => (E.opA x).map .box
  | .build t ps => (E.zero t).bind fun z =>
    match E.P.underlying t with
    | some (.struct fs) => if fs.toList.all (fun f => (E.size f.type).isSome) then (parts1 E (placesOf E fs) ps.toList).map (.build z) else none
    | some (.array _ e) => (E.size e).bind fun s => (parts1 E (fun i => some (i * s, s)) ps.toList).map (.build z)
    | _ => none
  | .buildSlice t len ps => (E.elem t).bind fun e => (E.size e).bind fun s => (E.zero e).bind fun z =>
    if 0 < s ∧ z.length = s ∧ len * s ≤ 16777216 then (parts2 E ps.toList).map (.lit e s h.keep z len) else none
  | .load t a => (E.isA t).bind fun g => (E.size t).bind fun n => (E.opA a).map fun a => .load g (if g then n else 1) a
  | .store t a x => (E.size t).bind fun n => (E.opA a).bind fun a => (E.opA x).map fun x => match h.owns with
    | [] => .store n a x
    | os => .storeOwn n os a x
  | .binOp op t x y _ => (E.opA x).bind fun x => (E.opA y).bind fun y =>
    match op with
    | .eql | .neq =>
      match E.P.underlying t with
      | some (.int _) | some .string => some (.bin op x y)
      | _ => if 12 ≤ E.P.depth then (E.sh 12 t).map fun s => .eq (op == .neq) s x y else none
    | _ => some (.bin op x y)
  | .unOp op _ x => (E.opA x).map (.un op)
  | .convert s d x => (E.opA x).bind fun a =>
    match E.P.underlying s, E.P.underlying d with
    | some (.int _), some (.int k) => some (.convI k a)
    | some .string, some .string => some (.convS a)
    | some (.slice el), some .string => match E.P.underlying el with
      | some (.int .u8) => some (.toStr a)
      | _ => none
    | _, _ => none
  | .makeInterface t x => if E.P.concrete t then (E.opA x).map (.iface t) else none
  | .makeFunc (.func f) ⟨[]⟩ caps => (E.opAs caps.toList).map (.mkfn f)
  | .makeMap _ none => some .mkmap
  | .makeSlice t l c => (E.elem t).bind fun e => (E.info e).bind fun i => (E.zero e).bind fun z => (E.opA l).bind fun l' => (E.opA c).bind fun c' =>
    match l', c' with
    | .t a, .t b => if a = b ∧ 0 < i.size ∧ 0 < i.bytes ∧ z.length = i.size then some (.mkslice e i.size i.bytes h.keep z l') else none
    | .k (.int k a), .k (.int _ b) => if a = b ∧ 0 < i.size ∧ 0 < i.bytes ∧ z.length = i.size then some (.mkslice e i.size i.bytes h.keep z (.k (.int k a))) else none
    | _, _ => none
  | .slice t x lo hi mx => (E.opA x).bind fun x => (E.opO lo).bind fun lo => (E.opO hi).bind fun hi => (E.opO mx).bind fun mx =>
    match E.P.underlying t with
    | some (.slice e) => (E.size e).bind fun s => if mx.isSome && hi.isNone then none else some (.slice s x lo hi mx)
    | some .string => if mx.isNone then some (.sliceS x lo hi) else none
    | some (.array n e) => (E.size e).bind fun s => if mx.isNone ∧ 0 < s then some (.sliceA n s x lo hi) else none
    | _ => none
  | .fieldAddr s x i => match E.P.underlying s with
    | some (.struct fs) => (fs[i]?).bind fun f => (E.size f.type).bind fun z => if z = 0 then none else (E.opA x).map (.faddr f.offset)
    | _ => none
  | .field t x i => match E.P.underlying t with
    | some (.struct fs) => (fs[i]?).bind fun f => (E.size f.type).bind fun z => (E.isA f.type).bind fun g => (E.opA x).map (.fld g f.offset (if g then z else 1))
    | _ => none
  | .indexAddr t x i => (E.opA x).bind fun x => (E.opA i).bind fun i =>
    match E.P.underlying t with
    | some (.slice e) => (E.size e).bind fun s => if 0 < s then some (.iaddr s x i) else none
    | some (.array n e) => (E.size e).bind fun s => some (.iaddrA n s x i)
    | _ => none
  | .index t x i => (E.opA x).bind fun x => (E.opA i).bind fun i =>
    match E.P.underlying t with
    | some (.array n e) => (E.size e).bind fun s => (E.isA e).bind fun g => if g ∨ s = 1 then some (.idxA g n s x i) else none
    | some .string => some (.idxS x i)
    | _ => none
  | .lookup t m k ok => (E.opA m).bind fun m => (E.opA k).bind fun k =>
    match E.P.underlying t with
    | some (.map kt et) => (E.sh 12 kt).bind fun s => if noF 12 s then (E.zeroV et).map fun z => .lookup ok s z m k else none
    | _ => none
  | .mapUpdate t m k v => (E.opA m).bind fun m => (E.opA k).bind fun k => (E.opA v).bind fun v =>
    match E.P.underlying t with
    | some (.map kt _) => (E.sh 12 kt).bind fun s => if noF 12 s then some (.mapset s m k v) else none
    | _ => none
  | .insert t m k v => (E.opA m).bind fun m => (E.opA k).bind fun k => (E.opA v).bind fun v =>
    match E.P.underlying t with
    | some (.map kt _) => (E.sh 12 kt).bind fun s => if noF 12 s then some (.mapset s m k v) else none
    | _ => none
  | .typeAssert x _ a ok => match E.P.underlying a with
    | some (.interface _) => none
    | some _ => (E.zeroV a).bind fun z => (E.opA x).map fun x => .assert a ok z x
    | none => none
  | .extract x i => (E.opA x).map (.extract · i)
  | .range t x => match E.P.underlying t with
    | some .string => (E.opA x).map .range
    | _ => none
  | .next x true => (E.opA x).map .next
  | .nilCheck x => (E.opA x).map .nilck
  | .call { callee := .builtin .len, args := ⟨[x]⟩, argTypes := ⟨[t]⟩ } => match E.P.underlying t with
    | some (.array n _) => some (.lenA n)
    | some (.pointer a) => match E.P.underlying a with
      | some (.array n _) => some (.lenA n)
      | _ => none
    | some (.slice _) => (E.opA x).map (.len 0)
    | some .string => (E.opA x).map (.len 1)
    | some (.map _ _) => (E.opA x).map (.len 2)
    | _ => none
  | .call { callee := .builtin .append, args := ⟨[s, x]⟩, argTypes := ⟨[t, t']⟩ } => (E.elem t).bind fun e => (E.info e).bind fun i =>
    match i.zero, E.P.underlying t' with
    | some z, some (.slice _) => if t' = t ∧ 0 < i.size ∧ 0 < i.bytes ∧ z.cells.size = i.size then (E.opA s).bind fun s => (E.opA x).map fun x => .append e i.size i.bytes h.keep s x else none
    | some z, some (.int _) => if 0 < i.size ∧ 0 < i.bytes ∧ z.cells.size = i.size then (E.zero e).bind fun zu => (E.opA s).bind fun s => (E.opA x).map fun x => .appendZ e i.size i.bytes h.keep zu s x else none
    | _, _ => none
  | .call { callee := .builtin .copy, args := ⟨[d, x]⟩, argTypes := ⟨[t, t']⟩ } => (E.elem t).bind fun e => (E.size e).bind fun s =>
    match E.P.underlying t' with
    | some (.slice _) => if 0 < s then (E.opA d).bind fun d => (E.opA x).map fun x => .copy s d x else none
    | _ => none
  | .call { callee := .builtin .max, args := ⟨[x, y]⟩, argTypes := _ } => (E.opA x).bind fun x => (E.opA y).map fun y => .mm true [x, y]
  | .call { callee := .value (.func f), args := args, argTypes := _ } => (E.opAs args.toList).map (.call f)
  | .call { callee := .value (.tmp f), args := args, argTypes := _ } => (E.opAs args.toList).map (.callv (.t f))
  | _ => none
structure RH where
  live : List Nat
  hs : List (Nat × Hint) := []
def RH.at (r : RH) (i : Nat) : Hint := (r.hs.lookup i).getD {}
def dstOK (n : Nat) : Option Tmp → Bool
  | some d => decide (d < n)
  | none => true
def compO (n : Nat) (ops : List Oper) (h : Hint) (o : Oper) : Option O :=
  (comp E h o).bind fun op =>
    if dstOK n o.dst then
      match o.guard with
      | none => some ⟨o.dst, op, none⟩
      | some (j, b) => match (ops[j]?).bind (·.dst) with
        | some d => if d < n then some ⟨o.dst, op, some (d, b)⟩ else none
        | none => none
    else none
def compOs (n : Nat) (ops : List Oper) (r : RH) : Nat → List Oper → Option (List O)
  | _, [] => some []
  | i, o :: os => (compO E n ops (r.at i) o).bind fun o => (compOs n ops r (i + 1) os).map (o :: ·)
def befOf (bs : List Nat) (o : Oper) : Nat := o.after.toList.foldl (fun s e => if Region.binds .any e then s ||| 2 ^ e.on ||| bs.getD e.on 0 else s) 0
def befs : List Nat → List Oper → List Nat
  | _, [] => []
  | bs, o :: os => befOf bs o :: befs (bs ++ [befOf bs o]) os
def backs : Nat → List Oper → Bool
  | _, [] => true
  | i, o :: os => o.after.toList.all (fun e => !Region.binds .any e || decide (e.on < i)) && backs (i + 1) os
def compC (n : Nat) (H : Nat → RH) : Code → Option C
  | .skip => some .skip
  | .region id ops false => (compOs E n ops.toList (H id) 0 ops.toList).map fun l => .ops l (H id).live
  | .region id ops true => if (E.P.follows .mixedOrders || !Region.departs ops) && backs 0 ops.toList then (compOs E n ops.toList (H id) 0 ops.toList).map fun l => .opsD l (befs [] ops.toList) (H id).live else none
  | .seq a b => (compC n H a).bind fun a => (compC n H b).map (.seq a)
  | .cond c t e => (E.opA c).bind fun c => (compC n H t).bind fun t => (compC n H e).map (.cond c t)
  | .block id c => (compC n H c).map (.block id)
  | .loop c => (compC n H c).map .loop
  | .exit id => some (.exit id)
  | .ret => some .ret
  | _ => none
def compR : ResultVar → Option RV
  | .tmp t => some (.tmp t)
  | .cell a t => (E.isA t).bind fun g => (E.size t).map fun n => .cell a g (if g then n else 1)
def compRs : List ResultVar → Option (List RV)
  | [] => some []
  | r :: rs => (compR E r).bind fun r => (compRs rs).map (r :: ·)
def hint (H : List (Nat × RH)) (d : RH) (id : Nat) : RH := (H.lookup id).getD d
def compF (pure : Bool) (H : List (Nat × RH)) (fn : Func) : Option F :=
  (fn.body).bind fun b => (compC E fn.ntmps (hint H ⟨[], []⟩) b).bind fun c => (compRs E fn.results.toList).bind fun rs =>
    if fn.params.size + fn.nfree ≤ fn.ntmps then some ⟨pure, fn.params.size + fn.nfree, c, rs⟩ else none
end
section
variable {E : En}
def EnvR (E : En) (g : G) (e : Env) (a : Act) : Prop := ∀ i, VR E g (get e i) (a.tmps.getD i undef)
def GlobOK (E : En) (g : G) : Prop := ∀ (n : Nat) (cs : List U), E.glob.lookup n = some cs → VR E g (.fp cs) (.pointer (some ⟨n, 0, none⟩))
theorem EnvR.ext {g g' : G} {e : Env} {a : Act} (h : Ext g g') (k : EnvR E g e a) : EnvR E g' e a := fun i => VR.ext h _ _ (k i)
theorem GlobOK.ext {g g' : G} (h : Ext g g') (k : GlobOK E g) : GlobOK E g' := fun n cs hn => VR.ext h _ _ (k n cs hn)
theorem GlobOK.keeps {g g' : G} (h : Keeps false g g') (k : GlobOK E g) : GlobOK E g' := by
  intro n cs hn
  have := k n cs hn
  simp only [VR] at this ⊢
  obtain ⟨hc, b, o, vs, e, hcl, hv⟩ := this
  have hb := h false b (fun e => e) hcl.1
  exact ⟨hc, b, o, vs, e, ⟨hb.1, hcl.2.1, fun i v hv => (World.cell?_of_block hb.2).trans (hcl.2.2 i v hv)⟩, VRs.clo h cs vs hc hv⟩
theorem ofVals_ok {g : G} {f : Value → Option U} (hf : ∀ v u, f v = some u → VR E g u v) : ∀ (vs : List Value) (us : List U), ofVals f vs = some us → VRs E g us vs
  | [], us, h => by simp [ofVals] at h; subst h; simp [VRs]
  | v :: vs, us, h => by
    simp only [ofVals, Option.bind_eq_some_iff] at h
    obtain ⟨u, h1, us', h2, h3⟩ := h
    simp at h3
    subst h3
    simp only [VRs]
    exact ⟨v, vs, rfl, hf v u h1, ofVals_ok hf vs us' h2⟩
theorem ofVal_ok {g : G} : ∀ d v u, ofVal d v = some u → VR E g u v
  | 0, v, u, h => by simp [ofVal] at h
  | d + 1, v, u, h => by
    have ih := ofVal_ok (g := g) d
    unfold ofVal at h
    split at h
    case h_1 => cases h; simp [VR]
    case h_2 => cases h; simp [VR]
    case h_3 s => cases h; simp only [VR]; exact ⟨s, rfl, rfl⟩
    case h_4 => cases h; simp [VR]
    case h_5 => cases h; simp [VR]
    case h_6 => cases h; simp [VR]
    case h_7 => cases h; simp [VR]
    case h_8 => cases h; simp [VR]
    case h_9 cs =>
      split at h
      · rename_i h1
        simp only [Option.map_eq_some_iff] at h
        obtain ⟨us, h2, rfl⟩ := h
        simp only [VR]
        exact ⟨cs, rfl, fun x hx => List.all_eq_true.1 h1 x hx, ofVals_ok ih _ _ h2⟩
      · cases h
    case h_10 t x =>
      simp only [Option.map_eq_some_iff] at h
      obtain ⟨w, h2, rfl⟩ := h
      simp only [VR]
      exact ⟨x, rfl, ih _ _ h2⟩
    case h_11 f => cases h; simp [VR, VRs]
    case h_12 => cases h
theorem opA_ok {g : G} {e : Env} {a : Act} (hg : GlobOK E g) (he : EnvR E g e a) {x : Operand} {y : A} (h : E.opA x = some y) : VR E g (y.ev e) (a.eval x) := by
  cases x with
  | tmp t => simp only [En.opA, Option.some.injEq] at h; subst h; exact he t
  | const v =>
    simp only [En.opA, Option.map_eq_some_iff] at h
    obtain ⟨u, h1, rfl⟩ := h
    exact ofVal_ok _ _ _ h1
  | global n =>
    simp only [En.opA, Option.map_eq_some_iff] at h
    obtain ⟨u, h1, rfl⟩ := h
    exact hg n u h1
  | func f => simp only [En.opA, Option.some.injEq] at h; subst h; simp [A.ev, VR, Act.eval, VRs]
theorem opAs_ok {g : G} {e : Env} {a : Act} (hg : GlobOK E g) (he : EnvR E g e a) : ∀ {xs : List Operand} {ys : List A}, E.opAs xs = some ys → VRs E g (ys.map (·.ev e)) (xs.map a.eval)
  | [], ys, h => by simp [En.opAs] at h; subst h; simp [VRs]
  | x :: xs, ys, h => by
    simp only [En.opAs, Option.bind_eq_some_iff] at h
    obtain ⟨y, h1, ys', h2, h3⟩ := h
    simp at h3
    subst h3
    simp only [List.map_cons, VRs]
    exact ⟨_, _, rfl, opA_ok hg he h1, opAs_ok hg he h2⟩
def RunOK (E : En) (g : G) (st : List Ob) (s : Sem Value) (u : U) (st' : List Ob) : Prop :=
  ∃ v g', s.run E.P g.w = .ok v g'.w ∧ Step g st g' st' ∧ SR E g' st' ∧ VR E g' u v
theorem RunOK.same {g : G} {st : List Ob} (h : SR E g st) {s : Sem Value} {u : U} {v : Value} (hs : s.run E.P g.w = .ok v g.w) (hv : VR E g u v) : RunOK E g st s u st :=
  ⟨v, g, hs, Step.refl g st, h, hv⟩
theorem En.isA_run {t : TypeId} {b : Bool} (h : E.isA t = some b) (w : World) : (isAgg t).run E.P w = .ok b w := by
  unfold En.isA at h
  cases hu : E.P.underlying t with
  | none => simp [hu] at h
  | some d => cases d <;> simp_all [isAgg, run_underlying hu]
theorem En.size_run {t : TypeId} {n : Nat} (h : E.size t = some n) (w : World) : (sizeOf t).run E.P w = .ok n w := by
  unfold En.size at h
  simp only [Option.map_eq_some_iff] at h
  obtain ⟨i, h1, rfl⟩ := h
  simp [sizeOf, typeInfo, h1]
theorem En.zero_run {t : TypeId} {z : List U} (h : E.zero t = some z) (w : World) : ∃ v, (zeroValue t).run E.P w = .ok v w ∧ One v.cells.toList ∧ ∀ g, VRs E g z v.cells.toList := by
  unfold En.zero at h
  simp only [Option.bind_eq_some_iff] at h
  obtain ⟨v, ⟨i, h1, h2⟩, h3⟩ := h
  split at h3
  · rename_i h4
    exact ⟨v, by simp [zeroValue, typeInfo, h1, h2], fun x hx => List.all_eq_true.1 h4 x hx, fun g => ofVals_ok (fun v u => ofVal_ok _ v u) _ _ h3⟩
  · cases h3
theorem En.zeroV_run {t : TypeId} {z : U} (h : E.zeroV t = some z) (w : World) : ∃ v, (zeroValue t).run E.P w = .ok v w ∧ ∀ g, VR E g z v := by
  unfold En.zeroV at h
  simp only [Option.bind_eq_some_iff] at h
  obtain ⟨v, ⟨i, h1, h2⟩, h3⟩ := h
  exact ⟨v, by simp [zeroValue, typeInfo, h1, h2], fun g => ofVal_ok _ v z h3⟩
theorem new_box {g : G} {st st' : List Ob} (h : SR E g st) {nid : Nat} {cs : List U} {vs : Array Value} {e : TypeId} (hn : newOb st nid (.box cs) = some st') (h1 : One vs.toList) (hv : VRs E g cs vs.toList) :
    ∃ g', Step g st g' st' ∧ SR E g' st' ∧ g'.w = g.w.alloc (.cells vs e) ∧ VR E g' (.bp nid 0) (.pointer (some ⟨g.w.heap.size, 0, none⟩)) := by
  have hg : g.w.grownBy (g.w.alloc (.cells vs e)) none := World.grownBy_alloc _ _ _
  obtain ⟨s, r⟩ := h.new hn hg .nilIface g.w.heap.size 0 0 rfl
    (fun hx => ⟨vs, e, by simp only [G.add, upd_same]; exact heap_alloc_new g.w _, h1, VRs.ext hx _ _ hv⟩)
    (fun c hc => by simp only [blk, G.add, upd_same, Option.some.injEq] at hc; subst hc; simp)
  exact ⟨_, s, r, rfl, by simp [VR, G.add, upd_same]⟩
theorem alloc_ok {g : G} {st st' : List Ob} (h : SR E g st) {nid : Nat} {t : TypeId} {z : List U} (hz : E.zero t = some z) (hn : newOb st nid (.box z) = some st') : RunOK E g st (Instr.alloc t true (.tuple #[])) (.bp nid 0) st' := by
  obtain ⟨v, h1, h2, h3⟩ := En.zero_run hz g.w
  obtain ⟨g', s, r, hw, hv⟩ := new_box h (e := t) hn h2 (h3 g)
  exact ⟨_, g', by rw [hw]; simp [Instr.alloc, h1, newVar, newRow], s, r, hv⟩
theorem box_ok {g : G} {st st' : List Ob} (h : SR E g st) {nid : Nat} {t : TypeId} {u : U} {v : Value} {cs : List U} (hv : VR E g u v) (hc : cellsO u = some cs) (hn : newOb st nid (.box cs) = some st') : RunOK E g st (Instr.box t v) (.bp nid 0) st' := by
  obtain ⟨g', s, r, hw, hv'⟩ := new_box h (e := t) hn (one_of_VR hv hc) (cells_of_VR hv hc)
  exact ⟨_, g', by rw [hw]; simp [Instr.box, newVar, newRow], s, r, hv'⟩
theorem new_nil {g : G} {st st' : List Ob} (h : SR E g st) {nid tag es : Nat} {keep : Bool} (hn : newOb st nid (.row tag es keep []) = some st') (hpos : 0 < es) :
    ∃ g', Step g st g' st' ∧ SR E g' st' ∧ g'.w = g.w ∧ VR E g' (.own nid 0) (.slice none 0 0) := by
  have hg : g.w.grownBy g.w none := World.grownBy.refl _ _
  obtain ⟨s, r⟩ := h.new hn hg (.slice none 0 0) 0 0 es rfl
    (fun hx => ⟨[], by simp only [G.add, upd_same]; exact ⟨by simp, .inl ⟨rfl, rfl⟩⟩, by simp [One], by simp [VRss], by simp, by simp [G.add, upd_same], by simp [G.add, upd_same], fun _ => by simp [Closs], hpos⟩)
    (fun c hc => by simp [blk, G.add, upd_same, Value.ownBlock] at hc)
  exact ⟨_, s, r, rfl, by simp only [VR, G.add, upd_same]; exact ⟨⟨_, _, _, rfl⟩, by simp, by simp, by simp⟩⟩
theorem laidOwn_ok : ∀ (os : List (Nat × Nat × Nat × Bool)) {g : G} {st st' : List Ob} {nid nid' : Nat} {z z' : List U} {vs : List Value}, SR E g st → VRs E g z vs → laidOwn z st nid os = some (z', st', nid') →
    (os.all fun p => (match z[p.1]? with | some .nils => true | some (.own _ 0) => true | _ => false) && decide (0 < p.2.2.1)) = true → (∀ (i id n : Nat), z[i]? = some (U.own id n) → vs[i]? = some (Value.slice none 0 0)) →
    ∃ g', Step g st g' st' ∧ SR E g' st' ∧ g'.w = g.w ∧ VRs E g' z' vs
  | [], g, st, st', nid, nid', z, z', vs, h, hv, he, _, _ => by
    simp [laidOwn] at he
    obtain ⟨rfl, rfl, rfl⟩ := he
    exact ⟨g, Step.refl g _, h, rfl, hv⟩
  | (i, tag, es, keep) :: os, g, st, st', nid, nid', z, z', vs, h, hv, he, hall, hnil => by
    simp only [laidOwn, Option.bind_eq_some_iff] at he
    obtain ⟨st1, h1, h2⟩ := he
    simp only [List.all_cons, Bool.and_eq_true, decide_eq_true_eq] at hall
    obtain ⟨⟨hz, hpos⟩, hrest⟩ := hall
    obtain ⟨g1, s1, r1, w1, v1⟩ := new_nil h h1 hpos
    have hvi : vs[i]? = some (.slice none 0 0) := by
      split at hz
      · rename_i hzi
        obtain ⟨v, hv1, hv2⟩ := hv.get hzi
        simp only [VR] at hv2
        rw [hv1, hv2]
      · rename_i id hzi
        exact hnil i id 0 hzi
      · cases hz
    have hlt : i < z.length := by
      split at hz
      · rename_i hzi; exact (List.getElem?_eq_some_iff.1 hzi).1
      · rename_i hzi; exact (List.getElem?_eq_some_iff.1 hzi).1
      · cases hz
    have hv1' : VRs E g1 (z.set i (.own nid 0)) vs := by
      have h0 := VRs.ext s1.toExt _ _ hv
      refine VRs_iff.2 ⟨by simp [h0.length], fun j u v hu hv' => ?_⟩
      by_cases hj : j = i
      · subst hj
        simp [hlt] at hu
        rw [hvi] at hv'
        cases hv'
        subst hu
        exact v1
      · rw [List.getElem?_set_ne (Ne.symm hj)] at hu
        exact (VRs_iff.1 h0).2 j u v hu hv'
    have hcond : (os.all fun p => (match (z.set i (.own nid 0))[p.1]? with | some .nils => true | some (.own _ 0) => true | _ => false) && decide (0 < p.2.2.1)) = true := by
      rw [List.all_eq_true] at hrest ⊢
      intro p hp
      have := hrest p hp
      by_cases hj : p.1 = i
      · rw [hj]
        simp [hlt] at this ⊢
        exact this.2
      · rw [List.getElem?_set_ne (Ne.symm hj)]
        exact this
    obtain ⟨g2, s2, r2, w2, v2⟩ := laidOwn_ok os r1 hv1' h2 hcond (fun j id n hj => by
      by_cases hji : j = i
      · subst hji; exact hvi
      · rw [List.getElem?_set_ne (Ne.symm hji)] at hj; exact hnil j id n hj)
    exact ⟨g2, s1.trans s2, r2, w2.trans w1, v2⟩
theorem zero_noown {t : TypeId} {z : List U} (hz : E.zero t = some z) : ∀ (i id n : Nat), z[i]? ≠ some (U.own id n) := by
  intro i id n h
  obtain ⟨v, _, _, h3⟩ := En.zero_run hz default
  obtain ⟨x, _, hx⟩ := (h3 { w := default, F := fun _ => False, Ft := fun _ => False, D := fun _ => False, vr := fun _ => .nilIface, vb := fun _ => 0, len := fun _ => 0, es := fun _ => 0 }).get h
  simp [VR] at hx
theorem allocOwn_ok {g : G} {st st1 st' : List Ob} (h : SR E g st) {nid nid' : Nat} {t : TypeId} {z z' : List U} {os : List (Nat × Nat × Nat × Bool)} (hz : E.zero t = some z) (ho : laidOwn z st nid os = some (z', st1, nid')) (hn : newOb st1 nid' (.box z') = some st')
    (hc : (os.all fun p => (match z[p.1]? with | some .nils => true | _ => false) && decide (0 < p.2.2.1)) = true) : RunOK E g st (Instr.alloc t true (.tuple #[])) (.bp nid' 0) st' := by
  obtain ⟨v, h1, h2, h3⟩ := En.zero_run hz g.w
  obtain ⟨g1, s1, r1, w1, v1⟩ := laidOwn_ok os h (h3 g) ho (by
    rw [List.all_eq_true] at hc ⊢
    intro p hp
    have := hc p hp
    split at this
    · rename_i e; rw [e]; exact this
    · simp at this) (fun i id n hi => absurd hi (zero_noown hz i id n))
  obtain ⟨g', s, r, hw, hv⟩ := new_box r1 (e := t) hn h2 v1
  exact ⟨.pointer (some ⟨g.w.heap.size, 0, none⟩), g', by rw [hw, w1]; simp [Instr.alloc, h1, newVar, newRow], s1.trans s, r, by rw [w1] at hv; exact hv⟩
theorem ld_ok {g : G} {st : List Ob} (h : SR E g st) {n : Nat} {u : U} {v : Value} {cs : List U} (hv : VR E g u v) (hl : ld st n u = some cs) :
    ∃ b o vs, v = .pointer (some ⟨b, o, none⟩) ∧ cs.length = n ∧ One vs ∧ VRs E g cs vs ∧ ∀ k x, vs[k]? = some x → g.w.cell? ⟨b, o + k, none⟩ = some x := by
  have take : ∀ {b : Nat} {off : Nat} {us : List U} {ws : List Value} {o : Nat}, VRs E g us ws → One ws → (∀ k x, ws[k]? = some x → g.w.cell? ⟨b, o + k, none⟩ = some x) → M2.sub us off n = some cs →
      cs.length = n ∧ One ((ws.drop off).take n) ∧ VRs E g cs ((ws.drop off).take n) ∧ ∀ k x, ((ws.drop off).take n)[k]? = some x → g.w.cell? ⟨b, (o + off) + k, none⟩ = some x := by
    intro b off us ws o h1 h2 h3 h4
    obtain ⟨h5, h6⟩ := h1.sub h4
    have hlen := h1.length
    refine ⟨by rw [h5.length]; simp; omega, fun x hx => h2 x (List.mem_of_mem_drop (List.mem_of_mem_take hx)), h5, fun k x hk => ?_⟩
    rw [List.getElem?_take] at hk
    split at hk
    · rw [List.getElem?_drop] at hk
      rw [Nat.add_assoc]
      exact h3 _ _ hk
    · cases hk
  cases u <;> simp only [ld, reduceCtorEq] at hl
  case bp id off =>
    simp only [VR] at hv
    split at hl
    · rename_i us hid
      obtain ⟨ws, e, hh, h1, hvs⟩ := h.ob id _ hid
      have := take (b := g.vb id) (o := 0) hvs h1 (fun k x hk => by
        rw [cell_of_row g.w (g.vb id) (0 + k) ws e (0, 0) hh, Nat.zero_add]; simpa using hk) hl
      refine ⟨g.vb id, off, _, hv.2, this.1, this.2.1, this.2.2.1, fun k x hk => ?_⟩
      have := this.2.2.2 k x hk
      rwa [Nat.zero_add] at this
    · cases hl
  case rp id m i off =>
    simp only [VR] at hv
    obtain ⟨b, o, ev, hd, hle, hv⟩ := hv
    split at hl
    · rename_i tag es keep ys hid
      split at hl
      · rename_i hm
        simp only [Option.bind_eq_some_iff] at hl
        obtain ⟨x, hx, hs⟩ := hl
        obtain ⟨ws, hown, h1, hvs, hes, hlen, hge, _, _⟩ := h.ob id _ hid
        obtain ⟨hb, ho⟩ := hv (by rw [hlen, hm])
        have hx' := hvs.get hes hx
        have hcells := hown.cells hb
        have := take (b := b) (o := i * es) hx' (fun y hy => h1 y (List.mem_of_mem_drop (List.mem_of_mem_take hy))) (fun k y hk => by
          rw [List.getElem?_take] at hk
          split at hk
          · rw [List.getElem?_drop] at hk
            have := hcells _ _ hk
            rwa [show (⟨b, 0, none⟩ : Addr).add (i * es + k) = ⟨b, i * es + k, none⟩ by unfold Addr.add; split <;> simp_all] at this
          · cases hk) hs
        exact ⟨b, i * es + off, _, by rw [ev, ho, hge], this.1, this.2.1, this.2.2.1, this.2.2.2⟩
      · cases hl
    · cases hl
  case fp us =>
    simp only [VR] at hv
    obtain ⟨_, b, o, ws, e, hc, hvs⟩ := hv
    have := take (b := b) (o := o) hvs hc.2.1 hc.2.2 hl
    exact ⟨b, o + 0, _, e, this.1, this.2.1, this.2.2.1, this.2.2.2⟩
theorem part_ok {g : G} {cs : List U} {vs : List Value} {agg : Bool} {u : U} (h1 : One vs) (hv : VRs E g cs vs) (hp : part agg cs = some u) : if agg then VR E g u (.agg vs.toArray) else ∃ v, vs = [v] ∧ VR E g u v := by
  unfold part at hp
  split at hp
  · cases hp; simp only [if_true, VR]; exact ⟨vs.toArray, rfl, by simpa using h1, by simpa using hv⟩
  · cases hp
    simp only [VRs] at hv
    obtain ⟨v, r, rfl, hv, rfl⟩ := hv
    exact ⟨v, rfl, hv⟩
  · cases hp
theorem add_none (b o k : Nat) : (⟨b, o, none⟩ : Addr).add k = ⟨b, o + k, none⟩ := by unfold Addr.add; split <;> simp_all
theorem load_ok {g : G} {st : List Ob} (h : SR E g st) {t : TypeId} {agg : Bool} {n : Nat} {u r : U} {v : Value} {cs : List U} (hA : E.isA t = some agg) (hn : E.size t = some n) (hv : VR E g u v)
    (hl : ld st (if agg then n else 1) u = some cs) (hp : part agg cs = some r) : RunOK E g st (Instr.loadAt t v) r st := by
  obtain ⟨b, o, vs, rfl, hlen, h1, hvs, hc⟩ := ld_ok h hv hl
  have hp' := part_ok h1 hvs hp
  cases agg with
  | true =>
    simp only [if_true] at hp' hlen
    refine RunOK.same h ?_ hp'
    have hrun := run_loadCells_list (P := E.P) g.w ⟨b, o, none⟩ vs (fun j x hx => by rw [add_none]; exact hc j x hx)
    rw [← hvs.length, hlen] at hrun
    simp [Instr.loadAt, Instr.sureAddr, loadVar, En.isA_run hA, En.size_run hn, hrun]
  | false =>
    simp only [Bool.false_eq_true, if_false] at hp'
    obtain ⟨x, rfl, hx⟩ := hp'
    have h0 := hc 0 x rfl
    rw [Nat.add_zero] at h0
    exact RunOK.same h (by simp [Instr.loadAt, Instr.sureAddr, loadVar, En.isA_run hA, h0]) hx
end
section
variable {E : En}
theorem grownBy_setRow (w : World) (b : Nat) (cs : Array Value) : w.grownBy (w.setRow b cs) (some b) := by
  refine ⟨rfl, rfl, rfl, by simp, fun k _ hne => ?_⟩
  unfold World.setRow
  simp only [Array.getElem?_modify]
  rw [if_neg (fun e => hne (by rw [e]))]
theorem upd_self {α : Type} (f : Nat → α) (i : Nat) : upd f i (f i) = f := by funext j; unfold upd; split <;> simp_all
theorem SR.setBox {g : G} {st : List Ob} (h : SR E g st) {id : Nat} {cs cs' : List U} (hid : st[id]? = some (.box cs)) {w' : World} (hg : g.w.grownBy w' (some (g.vb id))) {vs' : Array Value} {e : TypeId} (hh : w'.heap[g.vb id]? = some (.cells vs' e (0, 0)))
    (h1 : One vs'.toList) (hv : VRs E g cs' vs'.toList) : ∃ g', Step g st g' (st.set id (.box cs')) ∧ SR E g' (st.set id (.box cs')) ∧ g'.w = w' := by
  obtain ⟨s, r⟩ := h.put hid rfl (w' := w') (by simpa [blk] using hg) (g.vr id) (g.len id) (.box cs') rfl (Nat.le_refl _) (fun _ => rfl)
    (fun hx => ⟨vs', e, hh, h1, VRs.ext hx _ _ hv⟩) (fun c hc => .inl (by simpa [blk, G.put] using hc))
  exact ⟨_, s, r, rfl⟩
theorem SR.setRow {g : G} {st : List Ob} (h : SR E g st) {id tag es : Nat} {keep : Bool} {xs xs' : List (List U)} (hid : st[id]? = some (.row tag es keep xs)) {w' : World} (hg : g.w.grownBy w' (g.vr id).ownBlock) {vs' : List Value}
    (hown : w'.ownsRow 0 tag es (g.vr id) xs'.length vs') (h1 : One vs') (hv : VRss E g xs' vs') (hes : ∀ x ∈ xs', x.length = es) (hl : xs'.length = xs.length) (hk : keep = false → Closs true xs') :
    ∃ g', Step g st g' (st.set id (.row tag es keep xs')) ∧ SR E g' (st.set id (.row tag es keep xs')) ∧ g'.w = w' := by
  obtain ⟨ws, hown0, h10, hv0, hes0, hlen0, hge0, hk0, hpos⟩ := h.ob id _ hid
  obtain ⟨s, r⟩ := h.put hid rfl (w' := w') (by simpa [blk] using hg) (g.vr id) (g.len id) (.row tag es keep xs') rfl (Nat.le_refl _) (fun _ => rfl)
    (fun hx => ⟨vs', by simp only [G.put, upd_self]; exact hown, h1, VRss.ext hx _ _ hv, hes, by simp only [G.put, upd_self]; rw [hlen0, hl], by simp only [G.put]; exact hge0, hk, hpos⟩)
    (fun c hc => .inl (by simpa [blk, G.put, upd_self] using hc))
  exact ⟨_, s, r, rfl⟩
theorem stoRow_ok {g : G} {st st' : List Ob} (h : SR E g st) {id m i off : Nat} {us : List U} {vs : List Value} {v : Value} (hv : VR E g (.rp id m i off) v) (hu : VRs E g us vs) (h1 : One vs) (hs : stoRow st id m i off us = some st')
    (hc : ∀ tag es xs, st[id]? = some (.row tag es false xs) → Clos true us) :
    ∃ b o g', v = .pointer (some ⟨b, o, none⟩) ∧ (storeCells ⟨b, o, none⟩ vs).run E.P g.w = .ok () g'.w ∧ Step g st g' st' ∧ SR E g' st' := by
  have hlv := hu.length
  simp only [VR] at hv
  obtain ⟨b, o, ev, hd, hle, hv⟩ := hv
  unfold stoRow at hs
  split at hs
  · rename_i tag es keep xs hid
    split at hs
    · rename_i hm
      simp only [Option.bind_eq_some_iff] at hs
      obtain ⟨x, hx, hs⟩ := hs
      split at hs
      · rename_i hfit
        cases hs
        have hilt : i < xs.length := (List.getElem?_eq_some_iff.1 hx).1
        obtain ⟨ws, hown, h2, hvs, hes, hlen, hge, hck, hpos⟩ := h.ob id _ hid
        obtain ⟨hb, ho⟩ := hv (by rw [hlen, hm])
        have hxl : x.length = es := hes x (List.mem_of_getElem? hx)
        have hown' := hown
        rcases hown.2 with ⟨h0, hn⟩ | ⟨b', cap, cur, h0, hbase, hh, hle', hcap, hcs, ht⟩
        · rw [h0] at hb; cases hb
        · have : b' = b := by rw [h0] at hb; simpa [Value.ownBlock] using hb
          subst this
          have hiv : i * es + es ≤ xs.length * es := by rw [← Nat.succ_mul]; exact Nat.mul_le_mul_right _ hilt
          have hcapm : xs.length * es ≤ cap * es := Nat.mul_le_mul_right _ hle'
          have hrun := run_storeCells_at E.P b' (i * es + off) tag vs 0 cur g.w hh (by omega) h1
          simp only [Nat.add_zero] at hrun
          have hwl : ws.length = xs.length * es := hown.1
          have hfl := flat_length hes
          have hfl2 : (List.map List.length xs).sum = xs.length * es := by rw [← List.length_flatten]; exact hfl
          -- the row's cells behind the store
          have hnew : (cur.toList.take (i * es + off) ++ vs ++ cur.toList.drop (i * es + off + vs.length)).take (xs.length * es) = ws.take (i * es + off) ++ vs ++ ws.drop (i * es + off + vs.length) := by
            rw [← ht]
            apply List.ext_getElem?
            intro j
            simp only [List.getElem?_take, List.getElem?_append, List.length_take, List.length_append, List.getElem?_drop, Array.length_toList]
            have e1 : min (i * es + off) cur.size = i * es + off := by omega
            have e2 : min (i * es + off) (min (xs.length * es) cur.size) = i * es + off := by omega
            simp only [e1, e2]
            by_cases a1 : j < i * es + off
            · have a2 : j < xs.length * es := by omega
              simp [a1, a2, show j < i * es + off + vs.length by omega]
            · by_cases a2 : j < i * es + off + vs.length
              · have a3 : j < xs.length * es := by omega
                simp [a1, a2, a3]
              · simp only [a1, a2, if_false]
                have e3 : i * es + off + vs.length + (j - (i * es + off + vs.length)) = j := by omega
                rw [e3]
          have hflat : (xs.set i (splice x off us)).flatten = splice xs.flatten (i * es + off) us := by
            rw [flat_set hes (by rw [splice_length _ _ _ hfit, hxl]) hilt, splice_eq x off us hfit, splice_eq xs.flatten (i * es + off) us (by omega), splice_eq _ _ _ (by simp only [List.length_append, List.length_take, List.length_drop]; omega)]
            have hg := flat_get hes hx
            have hsplit : xs.flatten = xs.flatten.take (i * es) ++ (x ++ xs.flatten.drop (i * es + es)) := by
              rw [← hg, ← List.drop_drop, List.take_append_drop, List.take_append_drop]
            have hti : (xs.flatten.take (i * es)).length = i * es := by simp; omega
            rw [show (List.take off x ++ us ++ List.drop (off + us.length) x).length = es by simp only [List.length_append, List.length_take, List.length_drop]; omega]
            conv => rhs; rw [hsplit]
            rw [List.take_append, List.drop_append, hti, List.take_of_length_le (by omega : (xs.flatten.take (i * es)).length ≤ i * es + off), List.drop_of_length_le (by omega : (xs.flatten.take (i * es)).length ≤ i * es + off + us.length)]
            rw [show i * es + off - i * es = off by omega, show i * es + off + us.length - i * es = off + us.length by omega, List.take_append, List.drop_append]
            rw [show off - x.length = 0 by omega, show off + us.length - x.length = 0 by omega]
            simp [List.append_assoc]
          have hvs' : VRss E g (xs.set i (splice x off us)) (ws.take (i * es + off) ++ vs ++ ws.drop (i * es + off + vs.length)) := by
            rw [VRss_flat, hflat]
            exact (VRss_flat.1 hvs).splice hu (by omega)
          obtain ⟨g', s, r, hw⟩ := h.setRow hid (w' := g.w.setRow b' (cur.toList.take (i * es + off) ++ vs ++ cur.toList.drop (i * es + off + vs.length)).toArray) (by rw [hb]; exact grownBy_setRow _ _ _)
            (xs' := xs.set i (splice x off us)) (vs' := ws.take (i * es + off) ++ vs ++ ws.drop (i * es + off + vs.length))
            (by
              refine ⟨by simp only [List.length_append, List.length_take, List.length_drop, List.length_set]; omega, .inr ⟨b', cap, _, by rw [h0, List.length_set], hbase, setRow_heap g.w b' cur _ tag (0, 0) hh, by rw [List.length_set]; exact hle', hcap, ?_, ?_⟩⟩
              · simp only [List.size_toArray, List.length_append, List.length_take, List.length_drop, Array.length_toList]; omega
              · rw [List.length_set]; simpa using hnew)
            (by intro y hy
                simp only [List.mem_append] at hy
                rcases hy with (hy | hy) | hy
                · exact h2 y (List.mem_of_mem_take hy)
                · exact h1 y hy
                · exact h2 y (List.mem_of_mem_drop hy)) hvs'
            (by intro y hy
                rcases List.mem_or_eq_of_mem_set hy with hy | rfl
                · exact hes y hy
                · rw [splice_length _ _ _ hfit, hxl]) (by simp)
            (by rintro rfl
                have hcl := hc tag es xs hid
                rw [Closs_iff]
                intro y hy
                rcases List.mem_or_eq_of_mem_set hy with hy | rfl
                · exact Closs_iff.1 (hck rfl) y hy
                · rw [splice_eq _ _ _ hfit, Clos_iff]
                  have hx0 := Clos_iff.1 (Closs_iff.1 (hck rfl) x (List.mem_of_getElem? hx))
                  intro u hu
                  simp only [List.mem_append] at hu
                  rcases hu with (hu | hu) | hu
                  · exact hx0 u (List.mem_of_mem_take hu)
                  · exact Clos_iff.1 hcl u hu
                  · exact hx0 u (List.mem_of_mem_drop hu))
          exact ⟨b', i * es + off, g', by rw [ev, ho, hge], by rw [hw]; exact hrun, s, r⟩
      · cases hs
    · cases hs
  · cases hs
theorem sto_ok {g : G} {st st' : List Ob} (h : SR E g st) {us : List U} {vs : List Value} {u : U} {v : Value} (hv : VR E g u v) (hu : VRs E g us vs) (h1 : One vs) (hs : sto st us u = some st') :
    ∃ b o g', v = .pointer (some ⟨b, o, none⟩) ∧ (storeCells ⟨b, o, none⟩ vs).run E.P g.w = .ok () g'.w ∧ Step g st g' st' ∧ SR E g' st' := by
  have hlv := hu.length
  cases u <;> simp only [sto, reduceCtorEq] at hs
  case bp id off =>
    simp only [VR] at hv
    split at hs
    · rename_i cs hid
      split at hs
      · rename_i hle
        cases hs
        obtain ⟨ws, e, hh, h2, hvs⟩ := h.ob id _ hid
        have hlw := hvs.length
        have hrun := run_storeCells_at E.P (g.vb id) off e vs 0 ws g.w hh (by simp at hlw ⊢; omega) h1
        simp only [Nat.add_zero] at hrun
        obtain ⟨g', s, r, hw⟩ := h.setBox hid (grownBy_setRow g.w (g.vb id) _) (setRow_heap g.w (g.vb id) ws _ e (0, 0) hh) (cs' := splice cs off us)
          (by intro x hx
              simp only [List.mem_append] at hx
              rcases hx with (hx | hx) | hx
              · exact h2 x (List.mem_of_mem_take hx)
              · exact h1 x hx
              · exact h2 x (List.mem_of_mem_drop hx)) (hvs.splice hu hle)
        exact ⟨g.vb id, off, g', hv.2, by rw [hw]; exact hrun, s, r⟩
      · cases hs
    · cases hs
  case rp id m i off =>
    split at hs
    · rename_i tag es xs hid
      exact stoRow_ok h hv hu h1 hs (fun tag' es' xs' hid' => by rw [hid] at hid'; cases hid')
    · rename_i tag es xs hid
      simp only [Option.bind_eq_some_iff] at hs
      obtain ⟨⟨us1, st1⟩, h2, h3⟩ := hs
      obtain ⟨g1, s1, r1, v1, c1, w1, l1⟩ := (frz_ok (E := E) frzD).list g st us vs us1 st1 h hu h2
      obtain ⟨b, o, g', e, hrun, s, r⟩ := stoRow_ok r1 (VR.ext s1.toExt _ _ hv) v1 h1 h3 (fun _ _ _ _ => c1)
      exact ⟨b, o, g', e, by rw [← w1]; exact hrun, s1.trans s, r⟩
    · cases hs
theorem store_ok {g : G} {st st' : List Ob} (h : SR E g st) {t : TypeId} {n : Nat} {u x : U} {v y : Value} {us : List U} (hn : E.size t = some n) (hv : VR E g u v) (hy : VR E g x y) (hc : cellsO x = some us) (hl : us.length = n) (hs : sto st us u = some st') :
    ∃ g', (Instr.storeAt t v y).run E.P g.w = .ok () g'.w ∧ Step g st g' st' ∧ SR E g' st' := by
  have hcells := cells_of_VR hy hc
  obtain ⟨b, o, g', rfl, hrun, s, r⟩ := sto_ok h hv hcells (one_of_VR hy hc) hs
  refine ⟨g', ?_, s, r⟩
  have hsz : y.cells.size = n := by rw [← hl, hcells.length]; simp
  simp [Instr.storeAt, Instr.sureAddr, storeVar, En.size_run hn, hsz, hrun]
theorem storeOwn_ok {g : G} {st st1 st' : List Ob} (h : SR E g st) {t : TypeId} {n nid nid' : Nat} {u x : U} {v y : Value} {us us' : List U} {os : List (Nat × Nat × Nat × Bool)} (hn : E.size t = some n) (hv : VR E g u v) (hy : VR E g x y) (hc : cellsO x = some us) (hl : us.length = n)
    (hno : us.all (fun u => match u with | .own _ _ => false | _ => true) = true) (hos : os.all (fun p => (match us[p.1]? with | some .nils => true | _ => false) && decide (0 < p.2.2.1)) = true) (ho : laidOwn us st nid os = some (us', st1, nid')) (hs : sto st1 us' u = some st') :
    ∃ g', (Instr.storeAt t v y).run E.P g.w = .ok () g'.w ∧ Step g st g' st' ∧ SR E g' st' := by
  have hcells := cells_of_VR hy hc
  obtain ⟨g1, s1, r1, w1, v1⟩ := laidOwn_ok os h hcells ho (by
    rw [List.all_eq_true] at hos ⊢
    intro p hp
    have := hos p hp
    split at this
    · rename_i e; rw [e]; exact this
    · simp at this) (fun i id m hi => by
    have := List.all_eq_true.1 hno _ (List.mem_of_getElem? hi)
    cases this)
  obtain ⟨b, o, g', rfl, hrun, s, r⟩ := sto_ok r1 (VR.ext s1.toExt _ _ hv) v1 (one_of_VR hy hc) hs
  refine ⟨g', ?_, s1.trans s, r⟩
  have hsz : y.cells.size = n := by rw [← hl, hcells.length]; simp
  rw [w1] at hrun
  simp [Instr.storeAt, Instr.sureAddr, storeVar, En.size_run hn, hsz, hrun]
end
section
variable {E : En}
theorem bytes_eq (a b : ByteArray) : (a.toList == b.toList) = (a.data.toList == b.data.toList) := by
  rw [ByteArray.toList_eq, ByteArray.toList_eq]
theorem arith_ok {g : G} {op : BinOp} {t : TypeId} {k : IntKind} {m n : Int} {r : U} (hb : arith op k m n = some r) (w : World) : ∃ v, (binOp op t (.int k m) (.int k n)).run E.P w = .ok v w ∧ VR E g r v := by
  cases op
  case add => cases hb; exact ⟨.int k (k.wrap (m + n)), by simp [binOp, Op.intArith], by simp only [VR]⟩
  case sub => cases hb; exact ⟨.int k (k.wrap (m - n)), by simp [binOp, Op.intArith], by simp only [VR]⟩
  case mul => cases hb; exact ⟨.int k (k.wrap (m * n)), by simp [binOp, Op.intArith], by simp only [VR]⟩
  case quo =>
    simp only [M2.arith] at hb
    split at hb
    · cases hb
    · rename_i hn; cases hb; exact ⟨.int k (k.wrap (m.tdiv n)), by simp [binOp, Op.intDiv, hn], by simp only [VR]⟩
  case rem =>
    simp only [M2.arith] at hb
    split at hb
    · cases hb
    · rename_i hn; cases hb; exact ⟨.int k (m.tmod n), by simp [binOp, Op.intDiv, hn], by simp only [VR]⟩
  case and => cases hb; exact ⟨_, by simp only [binOp, ne_eq, not_true_eq_false, if_false]; rfl, by simp only [VR]⟩
  case or => cases hb; exact ⟨_, by simp only [binOp, ne_eq, not_true_eq_false, if_false]; rfl, by simp only [VR]⟩
  case xor => cases hb; exact ⟨_, by simp only [binOp, ne_eq, not_true_eq_false, if_false]; rfl, by simp only [VR]⟩
  case eql => cases hb; exact ⟨_, by simp [binOp, Op.intCmp]; rfl, by simp only [VR]⟩
  case neq => cases hb; exact ⟨_, by simp [binOp, Op.intCmp]; rfl, by simp only [VR]⟩
  case lss => cases hb; exact ⟨_, by simp [binOp, Op.intCmp]; rfl, by simp only [VR]⟩
  case leq => cases hb; exact ⟨_, by simp [binOp, Op.intCmp]; rfl, by simp only [VR]⟩
  case gtr => cases hb; exact ⟨_, by simp [binOp, Op.intCmp]; rfl, by simp only [VR]⟩
  case geq => cases hb; exact ⟨_, by simp [binOp, Op.intCmp]; rfl, by simp only [VR]⟩
  all_goals cases hb
theorem bin_ok {g : G} {st : List Ob} (h : SR E g st) {op : BinOp} {t : TypeId} {x y : Operand} {u v r : U} {a b : Value} (hu : VR E g u a) (hv : VR E g v b) (hb : bin op u v = some r) :
    RunOK E g st (do eqGuard op t x y a b; binOp op t a b) r st := by
  cases u <;> cases v <;> simp only [bin, reduceCtorEq] at hb
  case int.int k m k' n =>
    simp only [VR] at hu hv
    subst hu; subst hv
    have hguard : ∀ w : World, (eqGuard op t x y (.int k m) (.int k' n)).run E.P w = .ok () w := by
      intro w; cases op <;> simp [eqGuard]
    have arith : (if k = k' then arith op k m n else none) = some r → RunOK E g st (do eqGuard op t x y (.int k m) (.int k' n); binOp op t (.int k m) (.int k' n)) r st := by
      intro hb2
      split at hb2
      · rename_i hk
        subst hk
        obtain ⟨v, hv, hr⟩ := arith_ok (E := E) (g := g) (t := t) hb2 g.w
        exact RunOK.same h (by simp only [Sem.run_bind, hguard, Result.andThen_ok]; exact hv) hr
      · cases hb2
    cases op
    case shl =>
      simp only at hb
      split at hb
      · rename_i h0
        cases hb
        have : ¬ n < 0 := by omega
        refine RunOK.same (v := .int k (k.wrap (m * 2 ^ min n.toNat k.bits))) h ?_ (by simp only [VR])
        simp [hguard, binOp, Op.shift, this]
      · cases hb
    case shr =>
      simp only at hb
      split at hb
      · rename_i h0
        cases hb
        have : ¬ n < 0 := by omega
        refine RunOK.same (v := .int k (m.fdiv (2 ^ min n.toNat k.bits))) h ?_ (by simp only [VR])
        simp [hguard, binOp, Op.shift, this]
      · cases hb
    all_goals exact arith hb
  case str.str s s' =>
    simp only [VR] at hu hv
    obtain ⟨xs, rfl, rfl⟩ := hu
    obtain ⟨ys, rfl, rfl⟩ := hv
    have hguard : ∀ w : World, (eqGuard op t x y (.string xs) (.string ys)).run E.P w = .ok () w := by
      intro w; cases op <;> simp [eqGuard]
    cases op <;> simp only [Option.some.injEq, reduceCtorEq] at hb
    case add =>
      split at hb
      · rename_i hl
        cases hb
        refine RunOK.same h (v := .string (xs ++ ys)) ?_ (by simp only [VR]; exact ⟨_, rfl, by simp⟩)
        have hx : xs.size = xs.data.toList.length := by rw [Array.length_toList]; rfl
        have hy : ys.size = ys.data.toList.length := by rw [Array.length_toList]; rfl
        have : ¬ (IntKind.i64.max < ((xs.size + ys.size : Nat) : Int)) := by
          have : IntKind.i64.max = 9223372036854775807 := by decide
          omega
        simp [hguard, binOp, Op.stringOp]
        omega
      · cases hb
    case eql =>
      subst hb
      refine RunOK.same (v := .bool (xs.data.toList == ys.data.toList)) h ?_ (by simp only [VR])
      simp [hguard, binOp, Op.stringOp, bytes_eq]
    case neq =>
      subst hb
      refine RunOK.same (v := .bool !(xs.data.toList == ys.data.toList)) h ?_ (by simp only [VR])
      simp [hguard, binOp, Op.stringOp, bytes_eq]
theorem un_ok {g : G} {st : List Ob} (h : SR E g st) {op : UnOp} {u r : U} {a : Value} (hu : VR E g u a) (hb : un op u = some r) : RunOK E g st (Op.unary op a) r st := by
  cases u <;> simp only [un, reduceCtorEq] at hb
  case bool b =>
    simp only [VR] at hu
    subst hu
    cases op <;> simp only [Option.some.injEq, reduceCtorEq] at hb
    subst hb
    exact RunOK.same h (by simp [Op.unary]; rfl) (by simp only [VR])
  case int k n =>
    simp only [VR] at hu
    subst hu
    cases op <;> simp only [Option.some.injEq, reduceCtorEq] at hb
    subst hb
    exact RunOK.same h (by simp [Op.unary, Op.intArith]; rfl) (by simp only [VR, Int.zero_sub])
/-! ### Comparing -/
def mkv (E : En) (t : TypeId) (xs : List Value) : Value := if E.isA t = some true then .agg xs.toArray else xs.headD undef
theorem part_run {t : TypeId} {n : Nat} (hA : E.isA t ≠ none) (hn : E.size t = some n) (xs : Array Value) (off : Nat) (hle : off + n ≤ xs.size) (h1 : E.isA t = some false → n = 1) (w : World) :
    (Go.part t xs off).run E.P w = .ok (mkv E t ((xs.toList.drop off).take n)) w := by
  cases hb : E.isA t with
  | none => exact absurd hb hA
  | some b =>
    cases b with
    | true =>
      simp [Go.part, En.isA_run hb, En.size_run hn, mkv, hb]
      apply Array.ext'
      simp [List.extract]
    | false =>
      have : n = 1 := h1 hb
      subst this
      have hlt : off < xs.size := by omega
      have : (xs.toList.drop off).take 1 = [xs[off]] := by
        rw [List.drop_eq_getElem_cons (by simpa using hlt)]
        simp
      simp [Go.part, En.isA_run hb, mkv, hb, hlt, this]
theorem sh_isA : ∀ {d : Nat} {t : TypeId} {s : Sh}, E.sh d t = some s → ∃ b, E.isA t = some b ∧ (b = true ↔ ((∃ fs, s = .tst fs) ∨ ∃ n z e, s = .tarr n z e))
  | 0, t, s, h => by simp [En.sh] at h
  | d + 1, t, s, h => by
    unfold En.sh at h
    unfold En.isA
    split at h <;> rename_i hu
    · cases h; exact ⟨false, by simp [hu], by simp⟩
    · cases h; exact ⟨false, by simp [hu], by simp⟩
    · cases h; exact ⟨false, by simp [hu], by simp⟩
    · cases h; exact ⟨false, by simp [hu], by simp⟩
    · split at h
      · cases h
      · simp only [Option.map_eq_some_iff] at h
        obtain ⟨fs, _, rfl⟩ := h
        exact ⟨true, by simp [hu], by simp⟩
    · simp only [Option.bind_eq_some_iff, Option.map_eq_some_iff] at h
      obtain ⟨z, _, e, _, rfl⟩ := h
      exact ⟨true, by simp [hu], by simp⟩
    · simp only [Option.map_eq_some_iff] at h
      obtain ⟨l, _, rfl⟩ := h
      exact ⟨false, by simp [hu], by simp⟩
    · cases h
theorem same_one {d : Nat} {s : Sh} {us vs : List U} {b : Bool} (h : same d s us vs = some b) (hn : ¬ ((∃ fs, s = .tst fs) ∨ ∃ n z e, s = .tarr n z e)) : us.length = 1 ∧ vs.length = 1 := by
  cases d with
  | zero => simp [same] at h
  | succ d =>
    unfold same at h
    split at h <;> first
      | exact ⟨rfl, rfl⟩
      | (exfalso; apply hn; exact .inl ⟨_, rfl⟩)
      | (exfalso; apply hn; exact .inr ⟨_, _, _, rfl⟩)
      | cases h
theorem same_tb {n : Nat} {us vs : List U} {b : Bool} (h : same (n + 1) .tb us vs = some b) : ∃ x y, us = [.bool x] ∧ vs = [.bool y] ∧ b = (x == y) := by
  unfold same at h
  split at h <;> simp_all
theorem same_ti {n : Nat} {us vs : List U} {b : Bool} (h : same (n + 1) .ti us vs = some b) : ∃ k x y, us = [.int k x] ∧ vs = [.int k y] ∧ b = (x == y) := by
  unfold same at h
  split at h <;> simp_all
  obtain ⟨rfl, rfl⟩ := h
  exact ⟨_, _, ⟨rfl, rfl⟩, _, ⟨rfl, rfl⟩, rfl⟩
theorem same_ts {n : Nat} {us vs : List U} {b : Bool} (h : same (n + 1) .ts us vs = some b) : ∃ x y, us = [.str x] ∧ vs = [.str y] ∧ b = (x == y) := by
  unfold same at h
  split at h <;> simp_all
theorem same_tf {n : Nat} {us vs : List U} {b : Bool} (h : same (n + 1) .tf us vs = some b) : (us = [.nilF] ∧ vs = [.nilF] ∧ b = true) ∨ (∃ f c, us = [.nilF] ∧ vs = [.fn f c] ∧ b = false) ∨ (∃ f c, us = [.fn f c] ∧ vs = [.nilF] ∧ b = false) := by
  unfold same at h
  split at h <;> simp_all
theorem same_tst {n : Nat} {fs : List (Nat × Sh)} {us vs : List U} {b : Bool} (h : same (n + 1) (.tst fs) us vs = some b) : same.fields (same n) fs us vs = some b := by
  unfold same at h
  split at h <;> simp_all
theorem same_tarr {n m z : Nat} {e : Sh} {us vs : List U} {b : Bool} (h : same (n + 1) (.tarr m z e) us vs = some b) : us.length = m * z ∧ vs.length = m * z ∧ same.items (same n e) z m us vs = some b := by
  unfold same at h
  split at h <;> simp_all
theorem sized {d : Nat} {t : TypeId} {s : Sh} {n m : Nat} {us vs : List U} {b : Bool} (hs : E.sh d t = some s) (hb : same m s us vs = some b) (hl : us.length = n) : E.isA t = some false → n = 1 := by
  intro hA
  obtain ⟨isA, hA', hAg⟩ := sh_isA hs
  rw [hA] at hA'
  cases hA'
  have := same_one hb (fun h => by have := hAg.2 h; cases this)
  omega
theorem fields_ok {g : G} {d n : Nat} (ih : ∀ (t : TypeId) (s : Sh) (us vs : List U) (xs ys : List Value) (b : Bool), E.sh d t = some s → same n s us vs = some b → VRs E g us xs → VRs E g vs ys →
    ∀ (D : Nat) (w : World), d ≤ D → (Op.equalIn D t (mkv E t xs) (mkv E t ys)).run E.P w = .ok b w) (xs ys : Array Value) (us vs : List U) (hx : VRs E g us xs.toList) (hy : VRs E g vs ys.toList) (D : Nat) (w : World) (hD : d ≤ D) :
    ∀ (fs : List Field) (off : Nat) (fl : List (Nat × Sh)) (b : Bool), off ≤ us.length → off ≤ vs.length → En.sh.fields E (E.sh d) off fs = some fl → same.fields (same n) fl (us.drop off) (vs.drop off) = some b →
      (Op.eqFields D xs ys fs).run E.P w = .ok b w
  | [], off, fl, b, _, _, hf, hb => by
    simp [En.sh.fields] at hf
    subst hf
    unfold same.fields at hb
    split at hb <;> simp_all [Op.eqFields]
  | f :: fs, off, fl, b, ho, ho', hf, hb => by
    simp only [En.sh.fields] at hf
    split at hf
    · rename_i hno
      simp only [Option.bind_eq_some_iff, Option.map_eq_some_iff] at hf
      obtain ⟨z, hz, s, hs, fl', hfl, rfl⟩ := hf
      simp only [same.fields] at hb
      split at hb
      · rename_i hle
        simp only [Option.bind_eq_some_iff] at hb
        obtain ⟨r, hr, hb⟩ := hb
        have hoff : f.offset = off := hno.2
        have lx := hx.length
        have ly := hy.length
        simp only [List.length_drop] at hle
        have l1 : ((us.drop off).take z).length = z := by simp; omega
        have l2 : ((vs.drop off).take z).length = z := by simp; omega
        obtain ⟨isA, hA, _⟩ := sh_isA hs
        have hsz := sized hs hr l1
        have hsz' : E.isA f.type = some false → z = 1 := hsz
        simp only [Array.length_toList] at lx ly
        have p1 := part_run (by rw [hA]; simp) hz xs off (by omega) hsz' w
        have p2 := part_run (by rw [hA]; simp) hz ys off (by omega) hsz' w
        have e := ih f.type s _ _ _ _ r hs hr ((hx.drop off).take z) ((hy.drop off).take z) D w hD
        have hrest := fields_ok ih xs ys us vs hx hy D w hD fs (off + z) fl' 
        simp only [Op.eqFields, hno.1, ne_eq, not_false_eq_true, if_true, Sem.run_bind, hoff, p1, p2, Result.andThen_ok, e]
        obtain ⟨r', hr', rfl⟩ := Option.map_eq_some_iff.1 hb
        cases r with
        | false => simp
        | true =>
          simp only [List.drop_drop] at hr'
          simpa using hrest r' (by omega) (by omega) hfl hr'
      · cases hb
    · cases hf
theorem items_ok {g : G} {d n : Nat} {t : TypeId} {s : Sh} {z : Nat} (hs : E.sh d t = some s) (hz : E.size t = some z) (ih : ∀ (us vs : List U) (xs ys : List Value) (b : Bool), same n s us vs = some b → VRs E g us xs → VRs E g vs ys →
    ∀ (D : Nat) (w : World), d ≤ D → (Op.equalIn D t (mkv E t xs) (mkv E t ys)).run E.P w = .ok b w) (xs ys : Array Value) (us vs : List U) (hx : VRs E g us xs.toList) (hy : VRs E g vs ys.toList) (D : Nat) (w : World) (hD : d ≤ D) :
    ∀ (m k : Nat) (b : Bool), (k + m) * z ≤ us.length → (k + m) * z ≤ vs.length → same.items (same n s) z m (us.drop (k * z)) (vs.drop (k * z)) = some b →
      (Op.eqItems D t z xs ys (List.range' k m)).run E.P w = .ok b w
  | 0, k, b, _, _, hb => by
    simp [same.items] at hb
    subst hb
    simp [Op.eqItems]
  | m + 1, k, b, h1, h2, hb => by
    simp only [same.items, Option.bind_eq_some_iff] at hb
    obtain ⟨r, hr, hb⟩ := hb
    have lx := hx.length
    have ly := hy.length
    have hkz : k * z + z ≤ (k + (m + 1)) * z := by rw [← Nat.succ_mul]; exact Nat.mul_le_mul_right _ (by omega)
    have l1 : ((us.drop (k * z)).take z).length = z := by simp; omega
    have l2 : ((vs.drop (k * z)).take z).length = z := by simp; omega
    obtain ⟨isA, hA, _⟩ := sh_isA hs
    have hsz := sized hs hr l1
    simp only [Array.length_toList] at lx ly
    have p1 := part_run (by rw [hA]; simp) hz xs (k * z) (by omega) hsz w
    have p2 := part_run (by rw [hA]; simp) hz ys (k * z) (by omega) hsz w
    have e := ih _ _ _ _ r hr ((hx.drop (k * z)).take z) ((hy.drop (k * z)).take z) D w hD
    have hrest := fun b => items_ok hs hz ih xs ys us vs hx hy D w hD m (k + 1) b
    rw [List.range'_succ]
    simp only [Op.eqItems, Sem.run_bind, p1, p2, Result.andThen_ok, e]
    obtain ⟨r', hr', rfl⟩ := Option.map_eq_some_iff.1 hb
    cases r with
    | false => simp
    | true =>
      simp only [List.drop_drop] at hr'
      rw [show k * z + z = (k + 1) * z by rw [Nat.add_mul, Nat.one_mul]] at hr'
      have := hrest r' (by rw [show k + 1 + m = k + (m + 1) by omega]; exact h1) (by rw [show k + 1 + m = k + (m + 1) by omega]; exact h2) hr'
      simpa using this
theorem cellsS_ok {g : G} {d : Nat} {t : TypeId} {s : Sh} {u : U} {a : Value} {us : List U} (hs : E.sh d t = some s) (hu : VR E g u a) (hc : cellsS s u = some us) : ∃ xs, VRs E g us xs ∧ a = mkv E t xs := by
  obtain ⟨b, hA, hAg⟩ := sh_isA hs
  have agg : ∀ {cs : List U}, u = .agg cs → us = cs → b = true → ∃ xs, VRs E g us xs ∧ a = mkv E t xs := by
    rintro cs rfl rfl rfl
    simp only [VR] at hu
    obtain ⟨xs, rfl, _, h⟩ := hu
    exact ⟨xs.toList, h, by simp [mkv, hA]⟩
  have one : us = [u] → b = false → ∃ xs, VRs E g us xs ∧ a = mkv E t xs := by
    rintro rfl rfl
    exact ⟨[a], by simp only [VRs]; exact ⟨a, [], rfl, hu, rfl⟩, by simp [mkv, hA]⟩
  unfold cellsS at hc
  split at hc
  · cases hc; exact agg rfl rfl (hAg.2 (.inl ⟨_, rfl⟩))
  · cases hc; exact agg rfl rfl (hAg.2 (.inr ⟨_, _, _, rfl⟩))
  all_goals first
    | cases hc; done
    | skip
  cases hc
  refine one rfl ?_
  cases b with
  | false => rfl
  | true =>
    rcases hAg.1 rfl with ⟨fs, rfl⟩ | ⟨n, z, e, rfl⟩ <;> simp_all
theorem alts_ok {d : Nat} : ∀ {as : List TypeId} {l : List (Nat × Sh)}, En.sh.alts E (E.sh d) as = some l → ∀ {t : Nat} {s : Sh}, l.lookup t = some s → E.sh d t = some s ∧ ∃ i, E.P.info? t = some i ∧ i.comparable = true
  | [], l, h, t, s, hl => by
    simp [En.sh.alts] at h
    subst h
    simp at hl
  | a :: as, l, h, t, s, hl => by
    simp only [En.sh.alts] at h
    split at h
    · rename_i hc
      simp only [Option.bind_eq_some_iff, Option.map_eq_some_iff] at h
      obtain ⟨s', h1, l', h2, rfl⟩ := h
      rw [List.lookup_cons] at hl
      split at hl
      · rename_i he
        have : t = a := by simpa using he
        subst this
        cases hl
        obtain ⟨i, hi, hc⟩ := (Option.any_eq_true _ _).1 hc
        exact ⟨h1, i, hi, hc⟩
      · exact alts_ok h2 hl
    · cases h
theorem same_tifc {n : Nat} {l : List (Nat × Sh)} {us vs : List U} {b : Bool} (h : same (n + 1) (.tifc l) us vs = some b) :
    (∃ t v, us = [.nilI] ∧ vs = [.iface t v] ∧ b = false) ∨ (∃ t v, us = [.iface t v] ∧ vs = [.nilI] ∧ b = false) ∨ (∃ t t' a c, us = [.iface t a] ∧ vs = [.iface t' c] ∧ t ≠ t' ∧ b = false) ∨
      (∃ t a c sh as cs, us = [.iface t a] ∧ vs = [.iface t c] ∧ l.lookup t = some sh ∧ cellsS sh a = some as ∧ cellsS sh c = some cs ∧ same n sh as cs = some b) := by
  unfold same at h
  split at h <;> first
    | (cases h; done)
    | skip
  all_goals simp_all
  split at h
  · rename_i e
    subst e
    simp only [Option.bind_eq_some_iff] at h
    obtain ⟨sh, h1, as, h2, cs, h3, h4⟩ := h
    exact .inr ⟨_, _, ⟨rfl, rfl⟩, _, ⟨rfl, rfl⟩, sh, h1, as, h2, cs, h3, h4⟩
  · rename_i e
    simp only [Option.some.injEq] at h
    exact .inl ⟨e, h.symm⟩
theorem same_ok {g : G} : ∀ (d n : Nat) (t : TypeId) (s : Sh) (us vs : List U) (xs ys : List Value) (b : Bool), E.sh d t = some s → same n s us vs = some b → VRs E g us xs → VRs E g vs ys →
    ∀ (D : Nat) (w : World), d ≤ D → (Op.equalIn D t (mkv E t xs) (mkv E t ys)).run E.P w = .ok b w
  | 0, n, t, s, us, vs, xs, ys, b, hs, _, _, _, D, w, _ => by simp [En.sh] at hs
  | d + 1, 0, t, s, us, vs, xs, ys, b, hs, hb, _, _, D, w, _ => by simp [same] at hb
  | d + 1, n + 1, t, s, us, vs, xs, ys, b, hs, hb, hx, hy, D, w, hD => by
    have ih := same_ok (g := g) d n
    obtain ⟨D, rfl⟩ : ∃ m, D = m + 1 := ⟨D - 1, by omega⟩
    have hD' : d ≤ D := by omega
    obtain ⟨isA, hA, hAg⟩ := sh_isA hs
    unfold En.sh at hs
    split at hs <;> rename_i hu
    · cases hs
      have hA' : isA = false := by cases isA <;> simp_all
      subst hA'
      obtain ⟨x, y, rfl, rfl, rfl⟩ := same_tb hb
      simp only [VRs, VR] at hx hy
      obtain ⟨v, r, rfl, rfl, rfl⟩ := hx
      obtain ⟨v', r', rfl, rfl, rfl⟩ := hy
      simp [mkv, hA, run_equalIn_bool, hu]
    · cases hs
      have hA' : isA = false := by cases isA <;> simp_all
      subst hA'
      obtain ⟨k, x, y, rfl, rfl, rfl⟩ := same_ti hb
      simp only [VRs, VR] at hx hy
      obtain ⟨v, r, rfl, rfl, rfl⟩ := hx
      obtain ⟨v', r', rfl, rfl, rfl⟩ := hy
      simp [mkv, hA, run_equalIn_int w D t k _ x y hu]
    · cases hs
      have hA' : isA = false := by cases isA <;> simp_all
      subst hA'
      obtain ⟨x, y, rfl, rfl, rfl⟩ := same_ts hb
      simp only [VRs, VR] at hx hy
      obtain ⟨v, r, rfl, ⟨x, rfl, rfl⟩, rfl⟩ := hx
      obtain ⟨v', r', rfl, ⟨y, rfl, rfl⟩, rfl⟩ := hy
      simp [mkv, hA, run_equalIn_string w D t _ _ hu, bytes_eq]
    · cases hs
      have hA' : isA = false := by cases isA <;> simp_all
      subst hA'
      rcases same_tf hb with ⟨rfl, rfl, rfl⟩ | ⟨f, c, rfl, rfl, rfl⟩ | ⟨f, c, rfl, rfl, rfl⟩ <;>
      · simp only [VRs, VR] at hx hy
        obtain ⟨v, r, rfl, hx, rfl⟩ := hx
        obtain ⟨v', r', rfl, hy, rfl⟩ := hy
        simp [mkv, hA, Op.equalIn, run_underlying hu, hx, hy] <;> (try (obtain ⟨_, rfl, _⟩ := hx)) <;> (try (obtain ⟨_, rfl, _⟩ := hy)) <;> simp
    · rename_i fs
      split at hs
      · cases hs
      · rename_i hst
        simp only [Option.map_eq_some_iff] at hs
        obtain ⟨fl, hfl, rfl⟩ := hs
        have hA' : isA = true := by rw [hAg]; exact .inl ⟨_, rfl⟩
        subst hA'
        have hb' := same_tst hb
        have hfo : E.P.fieldsOf t = fs := by simp [Program.fieldsOf, hu]
        simp only [mkv, hA, if_true]
        rw [run_equalIn_struct w D t _ _ (by rw [hfo]; exact hu) (by simpa using hst), hfo]
        exact fields_ok ih xs.toArray ys.toArray us vs (by simpa using hx) (by simpa using hy) D w hD' _ 0 fl b (by omega) (by omega) hfl (by simpa using hb')
    · rename_i m et
      simp only [Option.bind_eq_some_iff, Option.map_eq_some_iff] at hs
      obtain ⟨z, hz, e, he, rfl⟩ := hs
      have hA' : isA = true := by rw [hAg]; exact .inr ⟨_, _, _, rfl⟩
      subst hA'
      obtain ⟨l1, l2, hb'⟩ := same_tarr hb
      simp only [mkv, hA, if_true]
      have hz' := hz
      unfold En.size at hz'
      simp only [Option.map_eq_some_iff] at hz'
      obtain ⟨i, hi, hiz⟩ := hz'
      rw [run_equalIn_array w D _ _ hu hi]
      have hc : E.P.cellsOf et = z := by unfold Program.cellsOf; rw [hi]; simpa using hiz
      rw [hc, List.range_eq_range']
      exact items_ok he hz (fun us vs xs ys b => ih et e us vs xs ys b he) xs.toArray ys.toArray us vs (by simpa using hx) (by simpa using hy) D w hD' _ 0 b (by rw [l1]; simp) (by rw [l2]; simp) (by simpa using hb')
    · simp only [Option.map_eq_some_iff] at hs
      obtain ⟨l, hl, rfl⟩ := hs
      have hA' : isA = false := by cases isA <;> simp_all
      subst hA'
      rcases same_tifc hb with ⟨t1, v1, rfl, rfl, rfl⟩ | ⟨t1, v1, rfl, rfl, rfl⟩ | ⟨t1, t2, v1, v2, rfl, rfl, hne, rfl⟩ | ⟨t1, v1, v2, sh, as, cs, rfl, rfl, hlk, ha, hc, hsm⟩
      · simp only [VRs, VR] at hx hy
        obtain ⟨v, r, rfl, rfl, rfl⟩ := hx
        obtain ⟨v', r', rfl, ⟨x, rfl, _⟩, rfl⟩ := hy
        simp [mkv, hA, Op.equalIn, run_underlying hu]
      · simp only [VRs, VR] at hx hy
        obtain ⟨v', r', rfl, ⟨x, rfl, _⟩, rfl⟩ := hx
        obtain ⟨v, r, rfl, rfl, rfl⟩ := hy
        simp [mkv, hA, Op.equalIn, run_underlying hu]
      · simp only [VRs, VR] at hx hy
        obtain ⟨v, r, rfl, ⟨x, rfl, _⟩, rfl⟩ := hx
        obtain ⟨v', r', rfl, ⟨y, rfl, _⟩, rfl⟩ := hy
        simp [mkv, hA, Op.equalIn, run_underlying hu, hne]
      · simp only [VRs, VR] at hx hy
        obtain ⟨v, r, rfl, ⟨x, rfl, hx⟩, rfl⟩ := hx
        obtain ⟨v', r', rfl, ⟨y, rfl, hy⟩, rfl⟩ := hy
        obtain ⟨hsh, i, hi, hcmp⟩ := alts_ok hl hlk
        obtain ⟨xs, hxs, rfl⟩ := cellsS_ok hsh hx ha
        obtain ⟨ys, hys, rfl⟩ := cellsS_ok hsh hy hc
        have := ih t1 sh as cs xs ys b hsh hsm hxs hys D w hD'
        simp [mkv, hA, Op.equalIn, run_underlying hu, run_typeInfo w hi, hcmp]
        simpa [mkv] using this
    · cases hs
theorem forIn_stays {α β : Type} {P : Program} {w : World} {f : α → β → Sem (ForInStep β)} {b : β} : ∀ {l : List α}, (∀ x ∈ l, (f x b).run P w = .ok (.yield b) w) → (forIn l b f).run P w = .ok b w
  | [], _ => by simp
  | x :: xs, h => by
    simp only [List.forIn_cons, Sem.run_bind, h x (by simp), Result.andThen_ok]
    exact forIn_stays (fun y hy => h y (by simp [hy]))
theorem run_guard_struct {P : Program} {w : World} {d : Nat} {t : TypeId} {fs : Array Field} {xs ys : Array Value} (ht : P.underlying t = some (.struct fs))
    (h : ∀ f ∈ fs.toList, ∃ a b, (Go.part f.type xs f.offset).run P w = .ok a w ∧ (Go.part f.type ys f.offset).run P w = .ok b w ∧ (Op.eqGuardIn d f.type a b).run P w = .ok false w) :
    (Op.eqGuardIn (d + 1) t (.agg xs) (.agg ys)).run P w = .ok false w := by
  simp only [Op.eqGuardIn, Sem.run_bind, run_underlying ht, Result.andThen_ok]
  rw [← Array.forIn_toList, forIn_stays (fun f hf => ?_)]
  · simp
  · obtain ⟨a, b, h1, h2, h3⟩ := h f hf
    split
    · simp [h1, h2, h3]
    · simp
theorem run_guard_array {P : Program} {w : World} {d n z : Nat} {t e : TypeId} {xs ys : Array Value} (ht : P.underlying t = some (.array n e)) (hz : (sizeOf e).run P w = .ok z w)
    (h : ∀ i < n, ∃ a b, (Go.part e xs (i * z)).run P w = .ok a w ∧ (Go.part e ys (i * z)).run P w = .ok b w ∧ (Op.eqGuardIn d e a b).run P w = .ok false w) :
    (Op.eqGuardIn (d + 1) t (.agg xs) (.agg ys)).run P w = .ok false w := by
  simp only [Op.eqGuardIn, Sem.run_bind, run_underlying ht, Result.andThen_ok, hz]
  simp only [Std.Legacy.Range.forIn_eq_forIn_range', Std.Legacy.Range.size, Nat.sub_zero, Nat.add_one_sub_one, Nat.div_one]
  rw [forIn_stays (fun i hi => ?_)]
  · simp
  · obtain ⟨a, b, h1, h2, h3⟩ := h i (by simpa using hi)
    simp [h1, h2, h3]
theorem fields_part {d n : Nat} {us vs : List U} : ∀ {fs : List Field} {off : Nat} {fl : List (Nat × Sh)} {b : Bool}, En.sh.fields E (E.sh d) off fs = some fl → same.fields (same n) fl (us.drop off) (vs.drop off) = some b → off ≤ us.length → off ≤ vs.length →
    ∀ f ∈ fs, ∃ z s r, E.size f.type = some z ∧ E.sh d f.type = some s ∧ same n s ((us.drop f.offset).take z) ((vs.drop f.offset).take z) = some r ∧ f.offset + z ≤ us.length ∧ f.offset + z ≤ vs.length
  | [], _, _, _, _, _, _, _, f, hf => by simp at hf
  | g :: fs, off, fl, b, hf, hb, ho, ho', f, hm => by
    simp only [En.sh.fields] at hf
    split at hf
    · rename_i hno
      simp only [Option.bind_eq_some_iff, Option.map_eq_some_iff] at hf
      obtain ⟨z, hz, s, hs, fl', hfl, rfl⟩ := hf
      simp only [same.fields] at hb
      split at hb
      · rename_i hle
        simp only [Option.bind_eq_some_iff] at hb
        obtain ⟨r, hr, hb⟩ := hb
        obtain ⟨r', hr', rfl⟩ := Option.map_eq_some_iff.1 hb
        have hoff : g.offset = off := hno.2
        simp only [List.length_drop] at hle
        rcases List.mem_cons.1 hm with rfl | hm
        · exact ⟨z, s, r, hz, hs, by rw [hoff]; exact hr, by omega, by omega⟩
        · simp only [List.drop_drop] at hr'
          exact fields_part hfl hr' (by omega) (by omega) f hm
      · cases hb
    · cases hf
theorem items_part {n z : Nat} {s : Sh} {us vs : List U} : ∀ {m k : Nat} {b : Bool}, same.items (same n s) z m (us.drop (k * z)) (vs.drop (k * z)) = some b → ∀ i, k ≤ i → i < k + m → ∃ r, same n s ((us.drop (i * z)).take z) ((vs.drop (i * z)).take z) = some r
  | 0, k, b, hb, i, h1, h2 => by omega
  | m + 1, k, b, hb, i, h1, h2 => by
    simp only [same.items, Option.bind_eq_some_iff] at hb
    obtain ⟨r, hr, hb⟩ := hb
    obtain ⟨r', hr', rfl⟩ := Option.map_eq_some_iff.1 hb
    by_cases e : i = k
    · subst e; exact ⟨r, hr⟩
    · simp only [List.drop_drop] at hr'
      rw [show k * z + z = (k + 1) * z by rw [Nat.add_mul, Nat.one_mul]] at hr'
      exact items_part hr' i (by omega) (by omega)
theorem guard_ok {g : G} : ∀ (d n : Nat) (t : TypeId) (s : Sh) (us vs : List U) (xs ys : List Value) (b : Bool), E.sh d t = some s → same n s us vs = some b → VRs E g us xs → VRs E g vs ys →
    ∀ (D : Nat) (w : World), d ≤ D → (Op.eqGuardIn D t (mkv E t xs) (mkv E t ys)).run E.P w = .ok false w
  | 0, n, t, s, us, vs, xs, ys, b, hs, _, _, _, D, w, _ => by simp [En.sh] at hs
  | d + 1, 0, t, s, us, vs, xs, ys, b, hs, hb, _, _, D, w, _ => by simp [same] at hb
  | d + 1, n + 1, t, s, us, vs, xs, ys, b, hs, hb, hx, hy, D, w, hD => by
    have ih := guard_ok (g := g) d n
    obtain ⟨D, rfl⟩ : ∃ m, D = m + 1 := ⟨D - 1, by omega⟩
    have hD' : d ≤ D := by omega
    obtain ⟨isA, hA, hAg⟩ := sh_isA hs
    have lx := hx.length
    have ly := hy.length
    unfold En.sh at hs
    split at hs <;> rename_i hu
    · simp [Op.eqGuardIn, run_underlying hu]
    · simp [Op.eqGuardIn, run_underlying hu]
    · simp [Op.eqGuardIn, run_underlying hu]
    · simp [Op.eqGuardIn, run_underlying hu]
    · rename_i fs
      split at hs
      · cases hs
      · simp only [Option.map_eq_some_iff] at hs
        obtain ⟨fl, hfl, rfl⟩ := hs
        have hA' : isA = true := by rw [hAg]; exact .inl ⟨_, rfl⟩
        subst hA'
        have hb' := same_tst hb
        simp only [mkv, hA, if_true]
        refine run_guard_struct hu (fun f hf => ?_)
        obtain ⟨z, s, r, hz, hs, hr, l1, l2⟩ := fields_part hfl (us := us) (vs := vs) (by simpa using hb') (by omega) (by omega) f hf
        obtain ⟨isA', hA2, _⟩ := sh_isA hs
        have hsz := sized hs hr (n := z) (by simp; omega)
        have hx' := (hx.drop f.offset).take z
        have hy' := (hy.drop f.offset).take z
        refine ⟨_, _, part_run (by rw [hA2]; simp) hz xs.toArray f.offset (by simp; omega) hsz w, part_run (by rw [hA2]; simp) hz ys.toArray f.offset (by simp; omega) hsz w, ?_⟩
        exact ih f.type s _ _ _ _ r hs hr hx' hy' D w hD'
    · rename_i m et
      simp only [Option.bind_eq_some_iff, Option.map_eq_some_iff] at hs
      obtain ⟨z, hz, e, he, rfl⟩ := hs
      have hA' : isA = true := by rw [hAg]; exact .inr ⟨_, _, _, rfl⟩
      subst hA'
      obtain ⟨l1, l2, hb'⟩ := same_tarr hb
      simp only [mkv, hA, if_true]
      refine run_guard_array hu (En.size_run hz w) (fun i hi => ?_)
      obtain ⟨r, hr⟩ := items_part (k := 0) (us := us) (vs := vs) (by simpa using hb') i (by omega) (by omega)
      have hle : i * z + z ≤ m * z := by rw [← Nat.succ_mul]; exact Nat.mul_le_mul_right _ (by omega)
      obtain ⟨isA', hA2, _⟩ := sh_isA he
      have hsz := sized he hr (n := z) (by simp; omega)
      have hx' := (hx.drop (i * z)).take z
      have hy' := (hy.drop (i * z)).take z
      refine ⟨_, _, part_run (by rw [hA2]; simp) hz xs.toArray (i * z) (by simp; omega) hsz w, part_run (by rw [hA2]; simp) hz ys.toArray (i * z) (by simp; omega) hsz w, ?_⟩
      exact ih et e _ _ _ _ r he hr hx' hy' D w hD'
    · simp only [Option.map_eq_some_iff] at hs
      obtain ⟨l, hl, rfl⟩ := hs
      have hA' : isA = false := by cases isA <;> simp_all
      subst hA'
      rcases same_tifc hb with ⟨t1, v1, rfl, rfl, rfl⟩ | ⟨t1, v1, rfl, rfl, rfl⟩ | ⟨t1, t2, v1, v2, rfl, rfl, hne, rfl⟩ | ⟨t1, v1, v2, sh, as, cs, rfl, rfl, hlk, ha, hc, hsm⟩
      all_goals
        simp only [VRs, VR] at hx hy
        obtain ⟨v, r, rfl, hx, rfl⟩ := hx
        obtain ⟨v', r', rfl, hy, rfl⟩ := hy
        (try (obtain ⟨_, rfl, _⟩ := hx)) <;> (try (obtain ⟨_, rfl, _⟩ := hy)) <;> (try subst hx) <;> (try subst hy)
        simp [mkv, hA, Op.eqGuardIn, run_underlying hu]
    · cases hs
end
section
variable {E : En}
theorem sh_int {d : Nat} {t : TypeId} (h : E.sh d t = some .ti) : ∃ k, E.P.underlying t = some (.int k) := by
  cases d with
  | zero => simp [En.sh] at h
  | succ d =>
    unfold En.sh at h
    split at h <;> first
      | (cases h; done)
      | exact ⟨_, by assumption⟩
      | (split at h
         · cases h
         · simp only [Option.map_eq_some_iff] at h
           obtain ⟨_, _, h⟩ := h
           cases h)
      | (simp only [Option.bind_eq_some_iff, Option.map_eq_some_iff] at h
         obtain ⟨_, _, _, _, h⟩ := h
         cases h)
      | (simp only [Option.map_eq_some_iff] at h
         obtain ⟨_, _, h⟩ := h
         cases h)
theorem sh_str {d : Nat} {t : TypeId} (h : E.sh d t = some .ts) : E.P.underlying t = some .string := by
  cases d with
  | zero => simp [En.sh] at h
  | succ d =>
    unfold En.sh at h
    split at h <;> first
      | (cases h; done)
      | assumption
      | (split at h
         · cases h
         · simp only [Option.map_eq_some_iff] at h
           obtain ⟨_, _, h⟩ := h
           cases h)
      | (simp only [Option.bind_eq_some_iff, Option.map_eq_some_iff] at h
         obtain ⟨_, _, _, _, h⟩ := h
         cases h)
      | (simp only [Option.map_eq_some_iff] at h
         obtain ⟨_, _, h⟩ := h
         cases h)
theorem eqGuard_run {P : Program} {w : World} {t : TypeId} {a b : Value} (op : BinOp) (x y : Operand) (hg : (Op.eqGuardIn Op.maxDepth t a b).run P w = .ok false w) : (eqGuard op t x y a b).run P w = .ok () w := by
  unfold eqGuard
  cases op <;> first
    | (simp; done)
    | skip
  all_goals
    cases a <;> first
      | (simp; done)
      | (cases b <;> first
          | (simp; done)
          | (simp; split <;> simp [hg])
          | (simp [hg]; done))
theorem eq_ok {g : G} {st : List Ob} (h : SR E g st) {t : TypeId} {s : Sh} {x y : Operand} {u v : U} {a b : Value} {r : Bool} (neg : Bool) (hs : E.sh 12 t = some s) (hd : 12 ≤ E.P.depth) (hi : ∀ k, E.P.underlying t ≠ some (.int k)) (hst : E.P.underlying t ≠ some .string) (hu : VR E g u a) (hv : VR E g v b) (hb : sameV s u v = some r) :
    RunOK E g st (do eqGuard (if neg then .neq else .eql) t x y a b; binOp (if neg then .neq else .eql) t a b) (.bool (if neg then !r else r)) st := by
  unfold sameV at hb
  simp only [Option.bind_eq_some_iff] at hb
  obtain ⟨us, h1, vs, h2, hb⟩ := hb
  obtain ⟨xs, hx, rfl⟩ := cellsS_ok hs hu h1
  obtain ⟨ys, hy, rfl⟩ := cellsS_ok hs hv h2
  have hguard := eqGuard_run (if neg then .neq else .eql) x y (guard_ok (g := g) 12 _ t s us vs xs ys r hs hb hx hy Op.maxDepth g.w (by simp [Op.maxDepth]))
  have he := same_ok (g := g) 12 _ t s us vs xs ys r hs hb hx hy 10000 g.w (by omega)
  have hbin : (binOp (if neg then .neq else .eql) t (mkv E t xs) (mkv E t ys)).run E.P g.w = .ok (.bool (if neg then !r else r)) g.w := by
    obtain ⟨isA, hA, hAg⟩ := sh_isA hs
    cases s with
    | ti => obtain ⟨k, hk⟩ := sh_int hs; exact absurd hk (hi k)
    | ts => exact absurd (sh_str hs) hst
    | tifc l =>
      have hA' : isA = false := by cases isA <;> simp_all
      subst hA'
      rcases same_tifc (n := 11) hb with ⟨t1, v1, rfl, rfl, rfl⟩ | ⟨t1, v1, rfl, rfl, rfl⟩ | ⟨t1, t2, v1, v2, rfl, rfl, hne, rfl⟩ | ⟨t1, v1, v2, sh, as, cs, rfl, rfl, hlk, ha, hc, hsm⟩ <;>
      · simp only [VRs, VR] at hx hy
        obtain ⟨v, r, rfl, hx, rfl⟩ := hx
        obtain ⟨v', r', rfl, hy, rfl⟩ := hy
        simp only [mkv, hA] at he ⊢
        (try (obtain ⟨_, rfl, _⟩ := hx)) <;> (try (obtain ⟨_, rfl, _⟩ := hy)) <;> (try subst hx) <;> (try subst hy) <;> simp at he <;> cases neg <;> simp [binOp, Op.equal, Op.maxDepth, he]
    | tb =>
      have hA' : isA = false := by cases isA <;> simp_all
      subst hA'
      obtain ⟨x, y, rfl, rfl, rfl⟩ := same_tb (n := 11) hb
      simp only [VRs, VR] at hx hy
      obtain ⟨v, r, rfl, rfl, rfl⟩ := hx
      obtain ⟨v', r', rfl, rfl, rfl⟩ := hy
      simp only [mkv, hA] at he ⊢
      simp at he
      cases neg <;> simp [binOp, Op.equal, Op.maxDepth, he]
    | tf =>
      have hA' : isA = false := by cases isA <;> simp_all
      subst hA'
      rcases same_tf (n := 11) hb with ⟨rfl, rfl, rfl⟩ | ⟨f, c, rfl, rfl, rfl⟩ | ⟨f, c, rfl, rfl, rfl⟩ <;>
      · simp only [VRs, VR] at hx hy
        obtain ⟨v, r, rfl, hx, rfl⟩ := hx
        obtain ⟨v', r', rfl, hy, rfl⟩ := hy
        simp only [mkv, hA] at he ⊢
        (try (obtain ⟨_, rfl, _⟩ := hx)) <;> (try (obtain ⟨_, rfl, _⟩ := hy)) <;> (try subst hx) <;> (try subst hy) <;> simp at he <;> cases neg <;> simp [binOp, Op.equal, Op.maxDepth, he]
    | tst fs =>
      have hA' : isA = true := by rw [hAg]; exact .inl ⟨_, rfl⟩
      subst hA'
      simp only [mkv, hA, if_true] at he ⊢
      cases neg <;> simp [binOp, Op.equal, Op.maxDepth, he]
    | tarr n z e =>
      have hA' : isA = true := by rw [hAg]; exact .inr ⟨_, _, _, rfl⟩
      subst hA'
      simp only [mkv, hA, if_true] at he ⊢
      cases neg <;> simp [binOp, Op.equal, Op.maxDepth, he]
  exact RunOK.same h (by simp only [Sem.run_bind, hguard, Result.andThen_ok]; exact hbin) (by simp only [VR])
end
section
variable {E : En}
theorem fill_step (off : Nat) (v : Array Value) (cs : Array Value) (h : off + v.size ≤ cs.size) :
    (v.zipIdx.foldl (fun cs (x : Value × Nat) => cs.setIfInBounds (off + x.2) x.1) cs).toList = cs.toList.take off ++ v.toList ++ cs.toList.drop (off + v.toList.length) := by
  rw [← Array.foldl_toList, Array.toList_zipIdx]
  obtain ⟨h1, h2⟩ := Great.foldl_set off v.toList 0 cs
  apply List.ext_getElem?
  intro k
  have e := h2 k
  rw [← Array.getElem?_toList] at e
  rw [e]
  simp only [Nat.add_zero, Array.length_toList, List.getElem?_append, List.length_append, List.length_take, List.getElem?_take, List.getElem?_drop, Array.getElem?_toList]
  have e1 : min off cs.size = off := by omega
  simp only [e1]
  by_cases a1 : k < off
  · simp [a1, show ¬ (off ≤ k) by omega, show k < off + v.size by omega]
  · by_cases a2 : k < off + v.size
    · simp [a1, a2, show off ≤ k by omega, show k < cs.size by omega]
    · rw [if_neg (by omega), if_neg a2]
      rw [show off + v.size + (k - (off + v.size)) = k by omega]
theorem one_fill {off : Nat} {v cs : Array Value} (h : off + v.size ≤ cs.size) (h1 : One cs.toList) (h2 : One v.toList) : One (v.zipIdx.foldl (fun cs (x : Value × Nat) => cs.setIfInBounds (off + x.2) x.1) cs).toList := by
  rw [fill_step off v cs h]
  intro x hx
  simp only [List.mem_append] at hx
  rcases hx with (hx | hx) | hx
  · exact h1 x (List.mem_of_mem_take hx)
  · exact h2 x hx
  · exact h1 x (List.mem_of_mem_drop hx)
theorem fillC_ok {g : G} {e : Env} {a : Act} (hg : GlobOK E g) (he : EnvR E g e a) (place : Nat → Option (Nat × Nat)) (place' : Nat → Option (Nat × Nat)) (hp : ∀ i x, place i = some x → place' i = some x) :
    ∀ (ps : List (Nat × Operand)) (qs : List (Nat × Nat × A)) (cs cs' : List U) (ws : Array Value), parts1 E place ps = some qs → fillC e qs cs = some cs' → VRs E g cs ws.toList → One ws.toList →
      ∃ ws' : Array Value, Instr.fill place' ws (ps.map fun p => (p.1, a.eval p.2)) = some ws' ∧ VRs E g cs' ws'.toList ∧ One ws'.toList
  | [], qs, cs, cs', ws, h1, h2, h3, h4 => by
    simp [parts1] at h1
    subst h1
    simp [fillC] at h2
    subst h2
    exact ⟨ws, by simp [Instr.fill], h3, h4⟩
  | (i, x) :: ps, qs, cs, cs', ws, h1, h2, h3, h4 => by
    simp only [parts1, Option.bind_eq_some_iff, Option.map_eq_some_iff] at h1
    obtain ⟨⟨off, n⟩, hpl, y, hy, qs', hq, rfl⟩ := h1
    simp only [fillC, Option.bind_eq_some_iff] at h2
    obtain ⟨us, hus, h2⟩ := h2
    split at h2
    · rename_i hc
      have hv := opA_ok hg he hy
      have hcells := cells_of_VR hv hus
      have hl : (a.eval x).cells.size = n := by rw [← hc.1, hcells.length]; simp
      have hl3 := h3.length
      simp only [Array.length_toList] at hl3
      have hfit : off + (a.eval x).cells.size ≤ ws.size := by omega
      obtain ⟨ws', hf, hv', h1'⟩ := fillC_ok hg he place place' hp ps qs' _ cs' _ hq h2 (by
        rw [fill_step off _ ws hfit]
        exact h3.splice hcells (by omega)) (one_fill hfit h4 (one_of_VR hv hus))
      refine ⟨ws', ?_, hv', h1'⟩
      simp only [List.map_cons, Instr.fill, hp i _ hpl]
      rw [if_neg (by simp [hl]; omega)]
      exact hf
    · cases h2
theorem placesOf_ok {fs : Array Field} (hall : fs.toList.all (fun f => (E.size f.type).isSome) = true) (i : Nat) (x : Nat × Nat) (h : placesOf E fs i = some x) : (fs.map fun f => (f.offset, E.P.cellsOf f.type))[i]? = some x := by
  unfold placesOf at h
  simp only [Option.bind_eq_some_iff, Option.map_eq_some_iff] at h
  obtain ⟨f, hf, z, hz, rfl⟩ := h
  unfold En.size at hz
  simp only [Option.map_eq_some_iff] at hz
  obtain ⟨j, hj, rfl⟩ := hz
  simp [hf, Program.cellsOf, hj]
theorem places_run (fs : List Field) (hall : fs.all (fun f => (E.size f.type).isSome) = true) (w : World) : (fs.mapM fun f => (do pure (f.offset, ← sizeOf f.type) : Sem (Nat × Nat))).run E.P w = .ok (fs.map fun f => (f.offset, E.P.cellsOf f.type)) w := by
  induction fs with
  | nil => simp
  | cons f fs ih =>
    simp only [List.all_cons, Bool.and_eq_true] at hall
    obtain ⟨z, hz⟩ := Option.isSome_iff_exists.1 hall.1
    have hz' := hz
    unfold En.size at hz
    simp only [Option.map_eq_some_iff] at hz
    obtain ⟨j, hj, hjz⟩ := hz
    have : E.P.cellsOf f.type = z := by simp [Program.cellsOf, hj, hjz]
    rw [List.mapM_cons]
    simp only [Sem.run_bind, En.size_run hz', Result.andThen_ok, Sem.run_pure, ih hall.2, List.map_cons, this]
theorem build_struct {g : G} {st : List Ob} (h : SR E g st) {e : Env} {a : Act} (hg : GlobOK E g) (he : EnvR E g e a) {t : TypeId} {fs : Array Field} {z cs : List U} {ps : List (Nat × Operand)} {qs : List (Nat × Nat × A)} (hz : E.zero t = some z) (hu : E.P.underlying t = some (.struct fs))
    (hall : fs.toList.all (fun f => (E.size f.type).isSome) = true) (hq : parts1 E (placesOf E fs) ps = some qs) (hf : fillC e qs z = some cs) : RunOK E g st (Instr.build t (ps.map fun p => (p.1, a.eval p.2)).toArray) (.agg cs) st := by
  obtain ⟨v, h1, h2, h3⟩ := En.zero_run hz g.w
  obtain ⟨ws', hfill, hv, ho⟩ := fillC_ok hg he (placesOf E fs) (fun i => (fs.map fun f => (f.offset, E.P.cellsOf f.type))[i]?) (placesOf_ok hall) ps qs z cs v.cells hq hf (h3 g) h2
  refine RunOK.same h (v := .agg ws') ?_ (by simp only [VR]; exact ⟨ws', rfl, ho, hv⟩)
  have hpl := places_run (E := E) fs.toList hall g.w
  simp only [Instr.build, Sem.run_bind, h1, Result.andThen_ok, run_underlying hu, Array.mapM_eq_mapM_toList, Sem.run_map, hpl]
  have : (List.map (fun f => (f.offset, E.P.cellsOf f.type)) fs.toList).toArray = fs.map fun f => (f.offset, E.P.cellsOf f.type) := by rw [← Array.toList_map, Array.toArray_toList]
  simp only [this, hfill]
  rfl
theorem build_array {g : G} {st : List Ob} (h : SR E g st) {e : Env} {a : Act} (hg : GlobOK E g) (he : EnvR E g e a) {t el : TypeId} {n s : Nat} {z cs : List U} {ps : List (Nat × Operand)} {qs : List (Nat × Nat × A)} (hz : E.zero t = some z) (hu : E.P.underlying t = some (.array n el))
    (hs : E.size el = some s) (hq : parts1 E (fun i => some (i * s, s)) ps = some qs) (hf : fillC e qs z = some cs) : RunOK E g st (Instr.build t (ps.map fun p => (p.1, a.eval p.2)).toArray) (.agg cs) st := by
  obtain ⟨v, h1, h2, h3⟩ := En.zero_run hz g.w
  obtain ⟨ws', hfill, hv, ho⟩ := fillC_ok hg he (fun i => some (i * s, s)) (fun i => some (i * s, s)) (fun _ _ h => h) ps qs z cs v.cells hq hf (h3 g) h2
  refine RunOK.same h (v := .agg ws') ?_ (by simp only [VR]; exact ⟨ws', rfl, ho, hv⟩)
  simp only [Instr.build, Sem.run_bind, h1, Result.andThen_ok, run_underlying hu, En.size_run hs]
  simp only [hfill]
  rfl
end
end Go.Proofs.YtfmhnfimkpffnaaGreatDoor.M2
