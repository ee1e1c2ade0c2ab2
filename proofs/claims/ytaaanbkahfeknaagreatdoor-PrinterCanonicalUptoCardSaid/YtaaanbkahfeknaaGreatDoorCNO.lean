/- The texts EvD, EvR, EvL, laid together. Conditions: none. -/
import Derived.Test.YtaaanbkahfeknaaGreatDoorCNN
set_option linter.all false
namespace Go.Ev
open Go.Lx
noncomputable section
inductive AV where
 | b (x:Bool)
 | i (k:IntKind) (n:Int)
 | s (x:List Nat)
 | p (a:Option (Nat × Nat))
 | sl (a:Option (Nat × Nat)) (len lo:Nat) (sym:Option (Nat × Nat))
 | m (r:Option Nat)
 | f (fn:FuncId) (first capt:List AV)
 | nf
 | ifc (t:Nat) (v:AV)
 | ni
 | agg (cs:List AV)
 | tup (vs:List AV)
inductive AO where
 | cells (cs:List AV) (e:Nat) (slack:Option Nat) (fr:Bool)
 | map (es:List (AV × AV × Nat)) (clock:Nat)
 | mit (m:Option Nat) (since:Nat) (seen:List Nat) (stepped:Nat)
def br {α:Type} (f t:α) (b:Bool):α:=Bool.rec f t b
def fO {α:Type} (o:Option α) (c:α->Bool):Bool:=Option.rec false c o
def oB {α β:Type} (o:Option α) (f:α->Option β):Option β:=Option.rec none f o
def oE {α β:Type} (n:β) (f:α->β) (o:Option α):β:=Option.rec n f o
def fN (n:Nat) (c:Nat->Bool):Bool:=Nat.rec (c 0) (fun m _=>c (.succ m)) n
def fI (n:Int) (c:Int->Bool):Bool:=Int.rec (fun m=>fN m fun m=>c (.ofNat m)) (fun m=>fN m fun m=>c (.negSucc m)) n
def fS (l:List Nat):(List Nat->Bool)->Bool:=List.rec (fun c=>c []) (fun x _ ih c=>fN x fun x=>ih fun r=>c (x::r)) l
def fL {α:Type} (l:List α):(List α->Bool)->Bool:=List.rec (fun c=>c []) (fun x _ ih c=>ih fun r=>c (x::r)) l
def lE {α β:Type} (n:β) (f:α->List α->β) (l:List α):β:=List.rec n (fun x r _=>f x r) l
inductive Tr (α:Type) where
 | lf
 | n (l:Tr α) (v:Option α) (r:Tr α)
def Tr.get {α:Type} (t:Tr α):Nat->Option α:=Tr.rec (fun _=>none) (fun _ v _ l r i=>br (br (r (Nat.pred (Nat.div i 2))) (l (Nat.div i 2)) (Nat.beq (Nat.mod i 2) 1)) v (Nat.beq i 0)) t
def Tr.pt {α:Type} (t:Tr α):(Tr α->Option α->Tr α->Bool)->Bool:=Tr.rec (fun c=>c .lf none .lf) (fun l v r _ _ c=>c l v r) t
def YdT {α:Type} (ih:Tr α->Nat->Option α->(Tr α->Bool)->Bool) (i:Nat) (x:Option α) (c:Tr α->Bool) (l:Tr α) (v:Option α) (r:Tr α):Bool:=
 br (br (ih r (Nat.pred (Nat.div i 2)) x fun t=>c (.n l v t)) (ih l (Nat.div i 2) x fun t=>c (.n t v r)) (Nat.beq (Nat.mod i 2) 1)) (c (.n l x r)) (Nat.beq i 0)
def YS {α:Type} (n:Nat):Tr α->Nat->Option α->(Tr α->Bool)->Bool:=Nat.rec (fun _ _ _ _=>false) (fun _ ih t i x c=>t.pt (YdT ih i x c)) n
def opr {α:Type} (move:Operand->α) (assign:Operand->α) (pick:Operand->Operand->Operand->α) (alloc:TypeId->α) (box:TypeId->Operand->α) (build:TypeId->Array (Nat × Operand)->α) (buildSlice:TypeId->Nat->Array (Nat × Operand)->α) (insert:TypeId->Operand->Operand->Operand->α)
 (load:TypeId->Operand->α) (store:TypeId->Operand->Operand->α) (ready:Nat->α) (waits:Nat->α) (nilCheck:Operand->α) (binOp:BinOp->TypeId->Operand->Operand->TypeId->α) (unOp:UnOp->TypeId->Operand->α) (convert:TypeId->TypeId->Operand->α) (s2ap:TypeId->Operand->α)
 (makeInterface:TypeId->Operand->α) (makeFunc:Fn->Array Operand->Array Operand->α) (makeMap:TypeId->Option Operand->α) (makeChan:TypeId->Operand->α) (makeSlice:TypeId->Operand->Operand->α) (slice:TypeId->Operand->Option Operand->Option Operand->Option Operand->α)
 (fieldAddr:TypeId->Operand->Nat->α) (field:TypeId->Operand->Nat->α) (indexAddr:TypeId->Operand->Operand->α) (index:TypeId->Operand->Operand->α) (lookup:TypeId->Operand->Operand->Bool->α) (mapUpdate:TypeId->Operand->Operand->Operand->α) (mapEntry:TypeId->Operand->Operand->α)
 (entryStore:TypeId->Operand->Operand->Operand->α) (range:TypeId->Operand->α) (next:Operand->Bool->α) (entry:Operand->α) (typeAssert:Operand->TypeId->TypeId->Bool->α) (extract:Operand->Nat->α) (call:Call->α) (go:Call->α) (defer_:Call->α) (panic:Operand->α) (send:Operand->Operand->α)
 (recv:TypeId->Operand->Bool->α) (select:Array SelectCase->Bool->α) (op:Op):α:=
 Op.rec move assign pick alloc box build buildSlice insert load store ready waits nilCheck binOp unOp convert s2ap makeInterface makeFunc makeMap makeChan makeSlice slice fieldAddr field indexAddr index lookup mapUpdate mapEntry entryStore range next entry typeAssert extract call go defer_ panic send recv select op
def codr {α:Type} (skip:α) (region:Nat->Array Oper->Bool->α) (seq:Code->Code->α) (cond:Operand->Code->Code->α) (block:Nat->Code->α) (loop:Code->α) (rangeFunc:Operand->Array Tmp->Code->Code->α) (exit:Nat->α) (scope:Code->α) (label:Nat->α) (goto:Nat->α) (ret:α) (refuse:String->α) (c:Code):α:=
 Code.rec skip region (fun a b _ _=>seq a b) (fun c a b _ _=>cond c a b) (fun i c _=>block i c) (fun c _=>loop c) (fun f p a b _ _=>rangeFunc f p a b) exit (fun c _=>scope c) label goto ret refuse c
def fT (b:Bool) (x:Bool):Bool:=br false x b
def oT {β:Type} (b:Bool) (x:Option β):Option β:=br none x b
def iEq:Int->Int->Bool
 | .ofNat a,.ofNat b=>Nat.beq a b
 | .negSucc a,.negSucc b=>Nat.beq a b
 | _,_=>false
def iLt:Int->Int->Bool
 | .ofNat a,.ofNat b=>Nat.blt a b
 | .negSucc a,.negSucc b=>Nat.blt b a
 | .ofNat _,.negSucc _=>false
 | .negSucc _,.ofNat _=>true
def sEq:List Nat->List Nat->Bool
 | [],[]=>true
 | a::x,b::y=>match Nat.beq a b with
  | true=>sEq x y
  | false=>false
 | _,_=>false
def sLt:List Nat->List Nat->Bool
 | _,[]=>false
 | [],_::_=>true
 | a::x,b::y=>match Nat.blt a b with
  | true=>true
  | false=>match Nat.beq a b with
   | true=>sLt x y
   | false=>false
def kN:IntKind->Nat
 | .i8=>0
 | .i16=>1
 | .i32=>2
 | .i64=>3
 | .u8=>4
 | .u16=>5
 | .u32=>6
 | .u64=>7
def kEq (a b:IntKind):Bool:=Nat.beq (kN a) (kN b)
def kHi:IntKind->Nat
 | .i8=>128
 | .i16=>32768
 | .i32=>2147483648
 | .i64=>9223372036854775808
 | .u8=>256
 | .u16=>65536
 | .u32=>4294967296
 | .u64=>18446744073709551616
def kLo:IntKind->Nat
 | .i8=>128
 | .i16=>32768
 | .i32=>2147483648
 | .i64=>9223372036854775808
 | _=>0
def inK (k:IntKind):Int->Bool
 | .ofNat n=>Nat.blt n (kHi k)
 | .negSucc n=>Nat.blt n (kLo k)
def wrp (k:IntKind) (n:Int):Int:=match inK k n with
 | true=>n
 | false=>k.wrap n
def tk {α:Type}:Nat->List α->Option (List α)
 | 0,_=>some []
 | _+1,[]=>none
 | n+1,x::r=>match tk n r with
  | some l=>some (x::l)
  | none=>none
def dp {α:Type}:Nat->List α->Option (List α)
 | 0,l=>some l
 | _+1,[]=>none
 | n+1,_::r=>dp n r
def at_ {α:Type}:List α->Nat->Option α
 | [],_=>none
 | x::r,i=>match i with
  | 0=>some x
  | .succ i=>at_ r i
def Yit {α:Type} (l:List α) (i n:Nat):Option (List α):=match dp i l with
 | some r=>tk n r
 | none=>none
def wr {α:Type}:List α->Nat->List α->Option (List α)
 | cs,0,[]=>some cs
 | [],_,_=>none
 | _::cs,0,v::vs=>match wr cs 0 vs with
  | some l=>some (v::l)
  | none=>none
 | c::cs,.succ j,vs=>match wr cs j vs with
  | some l=>some (c::l)
  | none=>none
def rep {α:Type} (z:List α):Nat->List α
 | 0=>[]
 | .succ n=>z++rep z n
def hasN (l:List Nat) (n:Nat):Bool:=match l with
 | []=>false
 | x::r=>match Nat.beq x n with
  | true=>true
  | false=>hasN r n
def AV.cells:AV->List AV
 | .agg cs=>cs
 | v=>[v]
def AV.one:AV->Bool
 | .agg _=>false
 | .tup _=>false
 | _=>true
def ofV1:Value->Option AV
 | .bool b=>some (.b b)
 | .int k n=>some (.i k n)
 | .string s=>some (.s (s.data.toList.map UInt8.toNat))
 | .pointer none=>some (.p none)
 | .slice none 0 0=>some (.sl none 0 0 none)
 | .map none=>some (.m none)
 | .nilFunc=>some .nf
 | .nilIface=>some .ni
 | _=>none
def ofVs:List Value->Option (List AV)
 | []=>some []
 | v::r=>match ofV1 v with
  | none=>none
  | some a=>match ofVs r with
   | none=>none
   | some l=>some (a::l)
def ofV:Value->Option AV
 | .agg cs=>(ofVs cs.toList).map .agg
 | .tuple cs=>match cs.toList with
  | []=>some (.tup [])
  | _=>none
 | v=>ofV1 v
def asB:AV->Option Bool
 | .b x=>some x
 | _=>none
def asI:AV->Option (IntKind × Int)
 | .i k n=>some (k,n)
 | _=>none
def asS:AV->Option (List Nat)
 | .s x=>some x
 | _=>none
def asP:AV->Option (Nat × Nat)
 | .p a=>a
 | _=>none
def asT:AV->Option (List AV)
 | .tup x=>some x
 | _=>none
def asA:AV->Option (List AV)
 | .agg x=>some x
 | _=>none
def asM:AV->Option (Option Nat)
 | .m r=>some r
 | _=>none
def asF:AV->Option (FuncId × List AV × List AV)
 | .f g x y=>some (g,x,y)
 | _=>none
structure Sl_ where
 a:Option (Nat × Nat)
 len:Nat
 lo:Nat
 sym:Option (Nat × Nat)
def asL:AV->Option Sl_
 | .sl a n c s=>some ⟨a,n,c,s⟩
 | _=>none
def YjA:Int->Option Nat
 | .ofNat n=>some n
 | .negSucc _=>none
def asN:AV->Option Nat
 | .i _ n=>YjA n
 | _=>none
structure TyA where
 k:Nat
 e:Nat
 n:Nat
 ik:IntKind
 fs:List (Nat × Nat)
 size:Nat
 bytes:Nat
 agg:Bool
 zero:List AV
def YfO:AO->Option (List AV)
 | .cells cs _ _ _=>some cs
 | _=>none
def oMap:AO->Option (List (AV × AV × Nat) × Nat)
 | .map es n=>some (es,n)
 | _=>none
abbrev TT:=Nat->Option TyA
abbrev RD:=Operand->Option AV
def tyK (T:TT) (t k:Nat) (c:TyA->Bool):Bool:=fO (T t) fun X=>fT (Nat.beq X.k k) (c X)
def tyKo {α:Type} (T:TT) (t k:Nat) (c:TyA->Option α):Option α:=oB (T t) fun X=>oT (Nat.beq X.k k) (c X)
def zeroV (X:TyA) (c:AV->Bool):Bool:=br (lE false (fun v r=>lE (c v) (fun _ _=>false) r) X.zero) (c (.agg X.zero)) X.agg
def rdo (env:Tr AV):RD
 | .tmp t=>env.get t
 | .const v=>ofV v
 | .func f=>some (.f f [] [])
 | .global _=>none
def rdos (r:RD) (l:List Operand):Option (List AV):=List.rec (some []) (fun x _ ih=>oB (r x) fun v=>oB ih fun vs=>some (v::vs)) l
abbrev QC:=AV->Bool
abbrev QF:=TT->RD->Tr AO->QC->Bool
def isC:Operand->Bool
 | .const _=>true
 | _=>false
def sLe (x y:List Nat):Bool:=sLt x y || sEq x y
def rI (k:IntKind) (c:QC) (n:Int):Bool:=fI n fun n=>c (.i k n)
def rB (c:QC) (b:Bool):Bool:=br (c (.b false)) (c (.b true)) b
def iBit (op:BinOp) (k:IntKind) (x y:Int) (c:QC):Bool:=match op with
 | .and=>rI k c (k.wrap (BitVec.ofInt k.bits x &&& BitVec.ofInt k.bits y).toNat)
 | .or=>rI k c (k.wrap (BitVec.ofInt k.bits x ||| BitVec.ofInt k.bits y).toNat)
 | .xor=>rI k c (k.wrap (BitVec.ofInt k.bits x ^^^ BitVec.ofInt k.bits y).toNat)
 | .andNot=>rI k c (k.wrap (BitVec.ofInt k.bits x &&& ~~~BitVec.ofInt k.bits y).toNat)
 | _=>false
def shf (left:Bool) (k:IntKind) (x y:Int) (c:QC):Bool:=
 br (br (rI k c (x.fdiv (2 ^ (min y.toNat k.bits)))) (rI k c (k.wrap (x*2 ^ (min y.toNat k.bits)))) left) false (iLt y 0)
abbrev IF:=IntKind->Int->Int->QC->Bool
def ibin (op:BinOp):IF:=match op with
 | .add=>fun k x y c=>rI k c (wrp k (x+y))
 | .sub=>fun k x y c=>rI k c (wrp k (x - y))
 | .mul=>fun k x y c=>rI k c (wrp k (x*y))
 | .quo=>fun k x y c=>br (rI k c (wrp k (x.tdiv y))) false (iEq y 0)
 | .rem=>fun k x y c=>br (rI k c (x.tmod y)) false (iEq y 0)
 | .eql=>fun _ x y c=>rB c (iEq x y)
 | .neq=>fun _ x y c=>rB c (!iEq x y)
 | .lss=>fun _ x y c=>rB c (iLt x y)
 | .leq=>fun _ x y c=>rB c (!iLt y x)
 | .gtr=>fun _ x y c=>rB c (iLt y x)
 | .geq=>fun _ x y c=>rB c (!iLt x y)
 | .and=>iBit .and
 | .or=>iBit .or
 | .xor=>iBit .xor
 | .andNot=>iBit .andNot
 | .shl=>shf true
 | .shr=>shf false
def isSh (op:BinOp):Bool:=match op with
 | .shl=>true
 | .shr=>true
 | _=>false
def sCat (x y:List Nat) (c:QC):Bool:=fS (x++y) fun z=>fT (Nat.blt z.length 9223372036854775808) (c (.s z))
def sbin (op:BinOp):List Nat->List Nat->QC->Bool:=match op with
 | .add=>sCat
 | .eql=>fun x y c=>rB c (sEq x y)
 | .neq=>fun x y c=>rB c (!sEq x y)
 | .lss=>fun x y c=>rB c (sLt x y)
 | .leq=>fun x y c=>rB c (sLe x y)
 | .gtr=>fun x y c=>rB c (!sLe x y)
 | .geq=>fun x y c=>rB c (!sLt x y)
 | _=>fun _ _ _=>false
def eqP:Option (Nat × Nat)->Option (Nat × Nat)->Option Bool
 | none,none=>some true
 | some _,none=>some false
 | none,some _=>some false
 | _,_=>none
def eqn (con:Bool) (a:AV):Nat->AV->Option Bool:=match a with
 | .b x=>fun k b=>oT (Nat.beq k 0) (oB (asB b) fun y=>some (x==y))
 | .p x=>fun k b=>oT (Nat.beq k 3) (match b with
  | .p y=>eqP x y
  | _=>none)
 | .ni=>fun k b=>oT (Nat.beq k 7) (match b with
  | .ni=>oT con (some true)
  | .ifc _ _=>some false
  | _=>none)
 | .ifc _ _=>fun k b=>oT (Nat.beq k 7) (match b with
  | .ni=>some false
  | _=>none)
 | .sl x _ _ _=>fun k b=>oT (Nat.beq k 4) (oB (asL b) fun z=>oT z.a.isNone (some x.isNone))
 | .m x=>fun k b=>oT (Nat.beq k 6) (oB (asM b) fun y=>oT y.isNone (some x.isNone))
 | .nf=>fun k b=>oT (Nat.beq k 8) (match b with
  | .nf=>some true
  | _=>none)
 | .f _ _ _=>fun k b=>oT (Nat.beq k 8) (match b with
  | .nf=>some false
  | _=>none)
 | _=>fun _ _=>none
def eqv (T:TT) (neg:Bool) (t:TypeId) (con:Bool) (a b:AV) (c:QC):Bool:=fO (T t) fun X=>fO (eqn con a X.k b) fun z=>rB c (z !=neg)
def eqo (op:BinOp):TT->TypeId->Bool->AV->AV->QC->Bool:=match op with
 | .eql=>fun T t con a b c=>eqv T false t con a b c
 | .neq=>fun T t con a b c=>eqv T true t con a b c
 | _=>fun _ _ _ _ _ _=>false
def abin (a:AV):BinOp->TT->TypeId->Bool->AV->QC->Bool:=match a with
 | .i k m=>fun op _ _ _ b c=>fO (asI b) fun z=>fT (isSh op || kEq k z.1) (ibin op k m z.2 c)
 | .s m=>fun op _ _ _ b c=>fO (asS b) fun n=>sbin op m n c
 | a=>fun op T t con b c=>eqo op T t con a b c
def qBin (op:BinOp) (t:TypeId) (x y:Operand):QF:=fun T r _ c=>fO (r x) fun a=>fO (r y) fun b=>abin a op T t (isC x || isC y) b c
def qUn (op:UnOp) (x:Operand):QF:=match op with
 | .not=>fun _ r _ c=>fO (r x) fun a=>fO (asB a) fun x=>rB c (!x)
 | .neg=>fun _ r _ c=>fO (r x) fun a=>fO (asI a) fun z=>rI z.1 c (wrp z.1 (0 - z.2))
 | _=>fun _ _ _ _=>false
def YhC (h:Tr AO) (id:Nat) (c:List AV->Bool):Bool:=fO (h.get id) fun o=>fO (YfO o) c
def YdO (h:Tr AO) (a:Nat × Nat) (n:Nat) (c:List AV->Bool):Bool:=YhC h a.1 fun cs=>fO (Yit cs a.2 n) c
def prt (T:TT) (t:TypeId) (cs:List AV) (off:Nat) (c:QC):Bool:=
 fO (T t) fun Y=>br (fO (at_ cs off) c) (fO (Yit cs off Y.size) fun l=>fL l fun l=>c (.agg l)) Y.agg
def ldv (T:TT) (h:Tr AO) (t:TypeId) (a:Nat × Nat) (c:QC):Bool:=YhC h a.1 fun cs=>prt T t cs a.2 c
def add_ (a:Nat × Nat) (n:Nat) (c:Nat × Nat->Bool):Bool:=fN (Nat.add a.2 n) fun o=>c (a.1,o)
def optN (r:RD) (d:Nat) (x:Option Operand):Option Nat:=oE (some d) (fun x=>oB (r x) asN) x
def slS (r:RD) (s:List Nat) (lo hi mx:Option Operand) (c:QC):Bool:=fT mx.isNone
 (fO (optN r s.length hi) fun h=>fO (optN r 0 lo) fun l=>fT (Nat.ble h s.length && Nat.ble l h)
  (fO (Yit s l (Nat.sub h l)) fun s=>fL s fun s=>c (.s s)))
def mkSl (size:Nat) (a:Option (Nat × Nat)) (l h m:Nat) (sym:Option (Nat × Nat)) (c:QC):Bool:=
 br (fO a fun a=>add_ a (Nat.mul l size) fun a=>fN (Nat.sub h l) fun k=>fN (Nat.sub m l) fun q=>oE (c (.sl (some a) k q none)) (fun jd=>fN (Nat.add jd.2 l) fun d=>c (.sl (some a) k q (some (jd.1,d)))) sym)
  (oE (fN (Nat.sub h l) fun k=>c (.sl a k 0 none)) (fun jd=>br false (fO a fun a=>add_ a (Nat.mul l size) fun a=>fN (Nat.sub h l) fun k=>fN (Nat.add jd.2 l) fun d=>c (.sl (some a) k 0 (some (jd.1,d)))) (fN (Nat.sub h l) fun k=>c (.sl a k 0 none))) sym) (Nat.beq m l)
def slA (r:RD) (size n:Nat) (a:Nat × Nat) (lo hi mx:Option Operand) (c:QC):Bool:=
 fO (optN r n mx) fun m=>fO (optN r n hi) fun h=>fO (optN r 0 lo) fun l=>fT ((mx.isNone || hi.isSome) && (Nat.ble m n && (Nat.ble h m && Nat.ble l h))) (mkSl size (some a) l h m none c)
def slL (r:RD) (size:Nat) (s:Sl_) (lo hi mx:Option Operand) (c:QC):Bool:=
 fO (optN r s.lo mx) fun m=>fO (optN r s.len hi) fun h=>fO (optN r 0 lo) fun l=>fT ((mx.isNone || hi.isSome) && (Nat.ble m s.lo && (Nat.ble h m && Nat.ble l h)))
  (mkSl size s.a l h m (oE s.sym (fun _=>none) mx) c)
def qSlc (t:TypeId) (x:Operand) (lo hi mx:Option Operand):QF:=fun T r _ c=>
 fO (r x) fun a=>fO (T t) fun X=>br (br (fT (Nat.beq X.k 5) (fO (asP a) fun a=>fO (T X.e) fun Y=>slA r Y.size X.n a lo hi mx c))
  (fO (asS a) fun s=>slS r s lo hi mx c) (Nat.beq X.k 2)) (fO (asL a) fun s=>fO (T X.e) fun Y=>slL r Y.size s lo hi mx c) (Nat.beq X.k 4)
def qIxA (t:TypeId) (x i:Operand):QF:=fun T r _ c=>fO (r x) fun v=>fO (r i) fun j=>fO (asN j) fun n=>fO (T t) fun X=>fO (T X.e) fun Y=>
 br (fT (Nat.beq X.k 5) (fO (asP v) fun a=>fT (Nat.blt n X.n) (add_ a (Nat.mul n Y.size) fun a=>c (.p (some a)))))
  (fO (asL v) fun s=>fO s.a fun a=>fT (Nat.blt n s.len) (add_ a (Nat.mul n Y.size) fun a=>c (.p (some a)))) (Nat.beq X.k 4)
def keq (k:Nat) (a b:AV):Option Bool:=
 br (br (oT (Nat.beq k 0) (oB (asB a) fun x=>oB (asB b) fun y=>some (x==y))) (oB (asI a) fun x=>oB (asI b) fun y=>oT (kEq x.1 y.1) (some (iEq x.2 y.2))) (Nat.beq k 1)) (oB (asS a) fun x=>oB (asS b) fun y=>some (sEq x y)) (Nat.beq k 2)
def fnd (k:Nat) (v:AV):List (AV × AV × Nat)->Nat->Option (Option (Nat × AV))
 | [],_=>some none
 | e::es,i=>oB (keq k v e.1) fun b=>br (fnd k v es (Nat.succ i)) (some (some (i,e.2.1))) b
def Ydx (k:Nat):Bool:=Nat.ble k 2
def YfY (place:Nat->Option (Nat × Nat)):List AV->List (Nat × AV)->Option (List AV)
 | cells,[]=>some cells
 | cells,q::rest=>oB (place q.1) fun z=>oT (Nat.beq q.2.cells.length z.2) (oB (wr cells z.1 q.2.cells) fun cs=>YfY place cs rest)
def plc (T:TT):List (Nat × Nat)->Option (List (Nat × Nat))
 | []=>some []
 | f::r=>oB (T f.1) fun Y=>oB (plc T r) fun l=>some ((f.2,Y.size)::l)
def zip_:List (Nat × Operand)->List AV->List (Nat × AV)
 | q::ps,v::vs=>(q.1,v)::zip_ ps vs
 | _,_=>[]
def byteOf (v:AV):Option Nat:=oB (asI v) fun z=>oT (kEq z.1 .u8) (oB (YjA z.2) fun n=>oT (Nat.blt n 256) (some n))
def bytesOf:List AV->Option (List Nat)
 | []=>some []
 | v::r=>oB (byteOf v) fun n=>oB (bytesOf r) fun l=>some (n::l)
def imax (x y:Int):Int:=br x y (iLt x y)
def imin (x y:Int):Int:=br x y (iLt y x)
def rN (c:QC) (n:Nat):Bool:=fN n fun n=>c (.i .i64 (.ofNat n))
def bLen (T:TT) (h:Tr AO) (t:TypeId) (v:AV) (c:QC):Bool:=
 fO (T t) fun X=>br (br (br (fT (Nat.beq X.k 6) (fO (asM v) fun r=>oE (rN c 0) (fun id=>fO (h.get id) fun o=>fO (oMap o) fun es=>rN c es.1.length) r))
  (c (.i .i64 (.ofNat X.n))) (Nat.beq X.k 5)) (fO (asS v) fun s=>rN c s.length) (Nat.beq X.k 2)) (fO (asL v) fun s=>c (.i .i64 (.ofNat s.len))) (Nat.beq X.k 4)
def bCap (T:TT) (t:TypeId) (v:AV) (c:QC):Bool:=tyK T t 4 fun _=>fO (asL v) fun s=>fT s.sym.isNone (c (.i .i64 (.ofNat s.lo)))
def one_ {α:Type} (l:List α) (c:α->Bool):Bool:=lE false (fun x r=>lE (c x) (fun _ _=>false) r) l
def two_ {α:Type} (l:List α) (c:α->α->Bool):Bool:=lE false (fun x r=>one_ r fun y=>c x y) l
def bMax (f:Int->Int->Int) (vs:List AV) (c:QC):Bool:=two_ vs fun a b=>fO (asI a) fun x=>fO (asI b) fun y=>fT (kEq x.1 y.1) (rI x.1 c (f x.2 y.2))
def bltn (b:Builtin):TT->Tr AO->List TypeId->List AV->QC->Bool:=match b with
 | .len=>fun T h ats vs c=>one_ ats fun t=>one_ vs fun v=>bLen T h t v c
 | .cap=>fun T _ ats vs c=>one_ ats fun t=>one_ vs fun v=>bCap T t v c
 | .max=>fun _ _ _ vs c=>bMax imax vs c
 | .min=>fun _ _ _ vs c=>bMax imin vs c
 | _=>fun _ _ _ _ _=>false
def qBi (b:Builtin) (xs:List Operand) (ats:List TypeId):QF:=fun T r h c=>fO (rdos r xs) fun vs=>bltn b T h ats vs c
def qMove (x:Operand):QF:=fun _ r _ c=>fO (r x) c
def qPick (d x y:Operand):QF:=fun _ r _ c=>fO (r d) fun d=>fO (asB d) fun b=>br (fO (r y) c) (fO (r x) c) b
def qNil_ (v:AV):QC->Bool:=match v with
 | .p a=>fun c=>fO a fun a=>c (.p (some a))
 | .f g x y=>fun c=>c (.f g x y)
 | _=>fun _=>false
def qNil (x:Operand):QF:=fun _ r _ c=>fO (r x) fun v=>qNil_ v c
def toStr (v:AV):TT->TyA->Tr AO->QC->Bool:=match v with
 | .s z=>fun _ _ _ c=>c (.s z)
 | .sl a n _ _=>fun T S h c=>fT (Nat.beq S.k 4) (tyK T S.e 1 fun E=>fT (kEq E.ik .u8) (oE (c (.s [])) (fun a=>YdO h a n fun l=>fO (bytesOf l) fun l=>fS l fun l=>c (.s l)) a))
 | _=>fun _ _ _ _=>false
def qConv (s t:TypeId) (x:Operand):QF:=fun T r h c=>fO (r x) fun v=>fO (T s) fun S=>fO (T t) fun X=>br (fT (Nat.beq X.k 2) (toStr v T S h c)) (fO (asI v) fun z=>rI X.ik c (wrp X.ik z.2)) (Nat.beq X.k 1)
def qMkI (t:TypeId) (x:Operand):QF:=fun T r _ c=>fO (T t) fun X=>br (fO (r x) fun v=>c (.ifc t v)) false (Nat.beq X.k 7)
def qMkF (fn:Fn) (xs ys:List Operand):QF:=match fn with
 | .func f=>fun _ r _ c=>fO (rdos r xs) fun l=>fL l fun l=>fO (rdos r ys) fun q=>fL q fun q=>c (.f f l q)
 | _=>fun _ _ _ _=>false
def qFA (t:TypeId) (x:Operand) (i:Nat):QF:=fun T r _ c=>tyK T t 9 fun X=>fO (r x) fun v=>fO (asP v) fun a=>
 fO (at_ X.fs i) fun f=>fO (T f.1) fun Y=>br (add_ a f.2 fun a=>c (.p (some a))) false (Nat.beq Y.size 0)
def qFld (t:TypeId) (x:Operand) (i:Nat):QF:=fun T r _ c=>tyK T t 9 fun X=>fO (r x) fun v=>fO (asA v) fun cs=>fO (at_ X.fs i) fun f=>prt T f.1 cs f.2 c
def qIdx (t:TypeId) (x i:Operand):QF:=fun T r _ c=>fO (T t) fun X=>fO (r i) fun j=>fO (asN j) fun n=>fO (r x) fun v=>
 br (fT (Nat.beq X.k 5) (fO (asA v) fun cs=>fO (T X.e) fun Y=>fT (Nat.blt n X.n) (prt T X.e cs (Nat.mul n Y.size) c))) (fO (asS v) fun s=>fO (at_ s n) fun z=>c (.i .u8 (.ofNat z))) (Nat.beq X.k 2)
def mapOf (h:Tr AO) (q:Option Nat) (c:List (AV × AV × Nat)->Bool):Bool:=oE (c []) (fun id=>fO (h.get id) fun o=>fO (oMap o) fun z=>c z.1) q
def okv (ok:Bool) (b:Bool) (v:AV) (c:QC):Bool:=br (c v) (c (.tup [v,.b b])) ok
def qLook (t:TypeId) (x k:Operand) (ok:Bool):QF:=fun T r h c=>tyK T t 6 fun X=>fO (r x) fun x=>fO (asM x) fun q=>fO (r k) fun kv=>
 fO (T X.n) fun K=>fT (Ydx K.k) (mapOf h q fun es=>fO (fnd K.k kv es 0) fun z=>oE (fO (T X.e) fun E=>zeroV E fun v=>okv ok false v c) (fun iv=>okv ok true iv.2 c) z)
def qBld (t:TypeId) (ps:List (Nat × Operand)):QF:=fun T r _ c=>fO (T t) fun X=>fO (rdos r (ps.map (·.2))) fun vs=>
 br (fT (Nat.beq X.k 5) (fO (T X.e) fun Y=>fO (YfY (fun i=>some (Nat.mul i Y.size,Y.size)) X.zero (zip_ ps vs)) fun cs=>fL cs fun cs=>c (.agg cs)))
  (fO (plc T X.fs) fun pl=>fO (YfY (at_ pl) X.zero (zip_ ps vs)) fun cs=>fL cs fun cs=>c (.agg cs)) (Nat.beq X.k 9)
def qTA_ (v:AV):TypeId->Bool->TyA->QC->Bool:=match v with
 | .ni=>fun _ ok X c=>fT ok (zeroV X fun z=>c (.tup [z,.b false]))
 | .ifc u v=>fun t ok X c=>br (fT ok (zeroV X fun z=>c (.tup [z,.b false]))) (okv ok true v c) (Nat.beq u t)
 | _=>fun _ _ _ _=>false
def qTA (x:Operand) (t:TypeId) (ok:Bool):QF:=fun T r _ c=>fO (T t) fun X=>br (fO (r x) fun v=>qTA_ v t ok X c) false (Nat.beq X.k 7)
structure It where
 m:Option Nat
 since:Nat
 seen:List Nat
 stepped:Nat
def oIt:AO->Option It
 | .mit m a l b=>some ⟨m,a,l,b⟩
 | _=>none
def fndB (z:Nat):List (AV × AV × Nat)->Option (AV × AV × Nat)
 | []=>none
 | e::r=>br (fndB z r) (some e) (Nat.beq e.2.2 z)
def YjQ:List Nat->Option Nat
 | []=>none
 | [x]=>some x
 | _::r=>YjQ r
def qEnt (x:Operand):QF:=fun _ r h c=>fO (r x) fun v=>fO (asP v) fun a=>fT (Nat.beq a.2 0) (fO (h.get a.1) fun o=>fO (oIt o) fun it=>fO it.m fun g=>fO (h.get g) fun q=>fO (oMap q) fun es=>
 fO (YjQ it.seen) fun z=>fT (Nat.beq es.2 it.stepped) (fO (fndB z es.1) fun e=>c (.tup [e.1,e.2.1])))
def qLoad (t:TypeId) (x:Operand):QF:=fun T r h c=>fO (r x) fun v=>fO (asP v) fun a=>ldv T h t a c
def qExt (x:Operand) (i:Nat):QF:=fun _ r _ c=>fO (r x) fun v=>fO (asT v) fun vs=>fO (at_ vs i) c
abbrev KC:=AV->Tr AO->Nat->Bool
abbrev KF:=TT->RD->Tr AO->Nat->KC->Bool
def dep:Nat:=40
def newO (h:Tr AO) (nx:Nat) (o:AO) (c:Nat->Tr AO->Nat->Bool):Bool:=YS dep h nx (some o) fun h=>fN (Nat.succ nx) fun m=>c nx h m
structure Ce where
 cs:List AV
 e:Nat
 sl:Option Nat
 fr:Bool
def oCe:AO->Option Ce
 | .cells cs e sl fr=>some ⟨cs,e,sl,fr⟩
 | _=>none
def putC (h:Tr AO) (id off:Nat) (vs:List AV) (c:Tr AO->Bool):Bool:=
 fT (vs.all AV.one) (fO (h.get id) fun o=>fO (oCe o) fun q=>fO (wr q.cs off vs) fun cs=>fL cs fun cs=>YS dep h id (some (.cells cs q.e q.sl q.fr)) c)
def src (v:AV):Tr AO->Nat->(Nat->List AV->Bool)->Bool:=match v with
 | .sl a n _ _=>fun h size c=>oE (fT (Nat.beq n 0) (c 0 [])) (fun a=>YdO h a (Nat.mul n size) fun l=>c n l) a
 | .s l=>fun _ size c=>fT (Nat.beq size 1) (c l.length (l.map fun n=>.i .u8 (.ofNat n)))
 | _=>fun _ _ _=>false
def Ygz (h:Tr AO) (nx:Nat) (cs:List AV) (e need:Nat) (fr:Bool) (c:KC):Bool:=
 fL cs fun cs=>newO h nx (.cells cs e (some nx) fr) fun id h m=>c (.sl (some (id,0)) need need (some (id,0))) h m
def appS (h:Tr AO) (nx:Nat) (e size len:Nat) (a q:Nat × Nat) (need:Nat) (l:List AV) (c:KC):Bool:=
 fO (h.get a.1) fun o=>fO (oCe o) fun z=>fT (Nat.beq a.2 0 && (Nat.beq q.2 0 && (Nat.beq e z.e && (Nat.beq z.cs.length (Nat.mul len size) && (Nat.beq q.1 a.1 && (oE false (Nat.beq a.1) z.sl && !z.fr))))))
  (YS dep h a.1 none fun h=>Ygz h nx (z.cs++l) e need false c)
def appN (h:Tr AO) (nx:Nat) (e size:Nat) (s:Sl_) (need:Nat) (l:List AV) (c:KC):Bool:=
 oE (fT (Nat.beq s.lo 0 && (Nat.beq s.len 0 && s.sym.isNone)) (Ygz h nx l e need false c))
  (fun a=>br (oE (YdO h a (Nat.mul s.len size) fun old=>Ygz h nx (old++l) e need false c) (fun q=>appS h nx e size s.len a q need l c) s.sym)
   (putC h a.1 (Nat.add a.2 (Nat.mul s.len size)) l fun h=>c (.sl (some a) need s.lo s.sym) h nx) (Nat.ble need s.lo)) s.a
def app (T:TT) (h:Tr AO) (nx:Nat) (t:TypeId) (s x:AV) (c:KC):Bool:=
 tyK T t 4 fun X=>fO (asL s) fun z=>fO (T X.e) fun Y=>fT (Nat.blt 0 Y.size && Nat.beq Y.zero.length Y.size)
  (src x h Y.size fun n l=>br (fN (Nat.add z.len n) fun need=>fT (Nat.blt (Nat.mul need (Nat.succ Y.bytes)) 1099511627776 && l.all AV.one) (appN h nx X.e Y.size z need l c))
   (fT (z.a.isSome || (Nat.beq z.lo 0 && (Nat.beq z.len 0 && z.sym.isNone))) (c s h nx)) (Nat.beq n 0))
def updE (es:List (AV × AV × Nat)) (i:Nat) (v:AV):List (AV × AV × Nat):=match es,i with
 | [],_=>[]
 | e::r,0=>(e.1,v,e.2.2)::r
 | e::r,.succ i=>e::updE r i v
def mset (T:TT) (h:Tr AO) (t:TypeId) (m k v:AV) (c:Tr AO->Bool):Bool:=
 tyK T t 6 fun X=>fO (asM m) fun q=>fO q fun id=>fO (T X.n) fun K=>fT (Ydx K.k) (fO (h.get id) fun o=>fO (oMap o) fun es=>
  fO (fnd K.k k es.1 0) fun z=>oE (fL (es.1++ [(k,v,es.2)]) fun l=>fN (Nat.succ es.2) fun clock=>YS dep h id (some (.map l clock)) c)
   (fun iv=>fL (updE es.1 iv.1 v) fun l=>YS dep h id (some (.map l es.2)) c) z)
def every (l:List (AV × AV × Nat)) (c:AV × AV × Nat->Bool):Bool:=List.rec true (fun e _ ih=>br false ih (c e)) l
def nxM (h:Tr AO) (nx id:Nat) (it:It) (g:Nat) (es:List (AV × AV × Nat)) (clock:Nat) (c:KC):Bool:=
 fT (it.seen.isEmpty || (es.isEmpty || es.any (fun e=>Nat.blt e.2.2 it.stepped))) (lE (c (.tup [.b false]) h nx) (fun e r=>fT ((e::r).all (fun e=>Nat.blt e.2.2 it.since))
  (every (e::r) fun e=>fL (it.seen++ [e.2.2]) fun seen=>YS dep h id (some (.mit (some g) it.since seen clock)) fun h=>c (.tup [.b true,e.1,e.2.1]) h nx)) (es.filter (fun e=>!hasN it.seen e.2.2)))
def nxt (h:Tr AO) (nx:Nat) (id:Nat) (c:KC):Bool:=fO (h.get id) fun o=>fO (oIt o) fun it=>oE (c (.tup [.b false]) h nx)
 (fun g=>fO (h.get g) fun q=>fO (oMap q) fun es=>fT (Nat.beq es.2 it.since && Nat.beq it.stepped it.since) (nxM h nx id it g es.1 es.2 c)) it.m
inductive Mk where
 | ptr
 | sl (len cap:Nat)
 | map
def Mk.of:Mk->Nat->AV
 | .ptr,id=>.p (some (id,0))
 | .sl n q,id=>.sl (some (id,0)) n q none
 | .map,id=>.m (some id)
abbrev LF:=TT->RD->Option (AO × Mk)
def floA (t:TypeId):LF:=fun T _=>oB (T t) fun X=>oT (X.zero.all AV.one) (some (.cells X.zero t none false,.ptr))
def floB (t:TypeId) (x:Operand):LF:=fun _ r=>oB (r x) fun v=>oT (v.cells.all AV.one) (some (.cells v.cells t none false,.ptr))
def floS (t:TypeId) (len:Nat) (ps:List (Nat × Operand)):LF:=fun T r=>tyKo T t 4 fun X=>oB (T X.e) fun Y=>oB (rdos r (ps.map (·.2))) fun vs=>
 oT (Nat.ble (Nat.mul len Y.size) 16777216 && Nat.beq Y.zero.length Y.size) (oB (YfY (fun i=>some (Nat.mul i Y.size,Y.size)) (rep Y.zero len) (zip_ ps vs)) fun cs=>
  oT (cs.all AV.one) (some (.cells cs X.e none false,.sl len len)))
def floM (t:TypeId) (l q:Operand):LF:=fun T r=>tyKo T t 4 fun X=>oB (T X.e) fun Y=>oB (r l) fun l=>oB (asN l) fun l=>oB (r q) fun q=>oB (asN q) fun q=>
 oT (Nat.ble l q && (Nat.blt (Nat.mul q (Nat.succ Y.bytes)) 1099511627776 && (Nat.beq Y.zero.length Y.size && Y.zero.all AV.one))) (some (.cells (rep Y.zero q) X.e none false,.sl l q))
def floE:LF:=fun _ _=>some (.map [] 0,.map)
def fA (o:AO):(AO->Bool)->Bool:=match o with
 | .cells cs e sl fr=>fun c=>fL cs fun cs=>c (.cells cs e sl fr)
 | .map es n=>fun c=>c (.map es n)
 | .mit m a l b=>fun c=>c (.mit m a l b)
def kNew (f:LF):KF:=fun T r h nx c=>fO (f T r) fun z=>fA z.1 fun o=>newO h nx o fun id h m=>c (z.2.of id) h m
def kStore (t:TypeId) (x y:Operand):KF:=fun T r h nx c=>fO (r x) fun v=>fO (asP v) fun a=>fO (T t) fun X=>fO (r y) fun v=>
 fT (Nat.beq v.cells.length X.size) (putC h a.1 a.2 v.cells fun h=>c (.tup []) h nx)
def kMap (t:TypeId) (y:Operand):KF:=fun T r h nx c=>tyK T t 6 fun _=>fO (r y) fun v=>fO (asI v) fun _=>newO h nx (.map [] 0) fun id h m=>c (.m (some id)) h m
def kSet (t:TypeId) (x k v:Operand):KF:=fun T r h nx c=>fO (r x) fun x=>fO (r k) fun k=>fO (r v) fun v=>mset T h t x k v fun h=>c (.tup []) h nx
def kBytes (s t:TypeId) (x:Operand):KF:=fun T r h nx c=>fO (T s) fun _=>tyK T t 4 fun X=>tyK T X.e 1 fun Y=>fO (r x) fun v=>fO (asS v) fun l=>
 fT (kEq Y.ik .u8 && (Nat.blt (Nat.succ l.length) 1099511627776 && Nat.beq Y.size 1)) (fN l.length fun n=>Ygz h nx (l.map fun n=>.i .u8 (.ofNat n)) X.e n true c)
def kRange (t:TypeId) (x:Operand):KF:=fun T r h nx c=>tyK T t 6 fun _=>fO (r x) fun v=>fO (asM v) fun q=>oE (newO h nx (.mit none 0 [] 0) fun id h m=>c (.p (some (id,0))) h m)
 (fun g=>fO (h.get g) fun o=>fO (oMap o) fun es=>newO h nx (.mit (some g) es.2 [] es.2) fun id h m=>c (.p (some (id,0))) h m) q
def kNext (x:Operand) (str:Bool):KF:=fun _ r h nx c=>br (fO (r x) fun v=>fO (asP v) fun a=>fT (Nat.beq a.2 0) (nxt h nx a.1 c)) false str
def kApp (xs:List Operand) (ats:List TypeId):KF:=fun T r h nx c=>two_ xs fun x y=>two_ ats fun t u=>fO (r x) fun s=>fO (r y) fun v=>fO (T u) fun U=>fT (Nat.beq U.k 4 || Nat.beq U.k 2) (app T h nx t s v c)
def kCopy (xs:List Operand) (ats:List TypeId):KF:=fun T r h nx c=>two_ xs fun x y=>lE false (fun t _=>tyK T t 4 fun X=>fO (T X.e) fun Y=>fO (r x) fun s=>fO (asL s) fun z=>fO (r y) fun v=>
 src v h Y.size fun n l=>fN (Nat.min n z.len) fun n=>fO (tk (Nat.mul n Y.size) l) fun l=>oE (c (.i .i64 (.ofNat n)) h nx) (fun a=>putC h a.1 a.2 l fun h=>c (.i .i64 (.ofNat n)) h nx) z.a) ats
inductive OX where
 | q (f:QF)
 | l (f:LF)
 | k (f:KF)
 | call (f:Operand) (xs:List Operand)
 | cv (s t:TypeId) (x:Operand)
 | bad
def oxBi (xs:List Operand) (ats:List TypeId) (b:Builtin):OX:=match b with
 | .append=>.k (kApp xs ats)
 | .copy=>.k (kCopy xs ats)
 | b=>.q (qBi b xs ats)
def oxC (k:Callee):List Operand->List TypeId->OX:=match k with
 | .value f=>fun xs _=>.call f xs
 | .builtin b=>fun xs ats=>oxBi xs ats b
 | .invoke _ _=>fun _ _=>.bad
def oxM (t:TypeId) (x:Option Operand):OX:=oE (.l floE) (fun y=>.k (kMap t y)) x
def ox (op:Op):OX:=opr (fun x=>.q (qMove x)) (fun x=>.q (qMove x)) (fun d x y=>.q (qPick d x y)) (fun t=>.l (floA t)) (fun t x=>.l (floB t x)) (fun t ps=>.q (qBld t ps.toList)) (fun t n ps=>.l (floS t n ps.toList)) (fun t x k v=>.k (kSet t x k v))
 (fun t x=>.q (qLoad t x)) (fun t x y=>.k (kStore t x y)) (fun _=>.bad) (fun _=>.bad) (fun x=>.q (qNil x)) (fun op t x y _=>.q (qBin op t x y)) (fun op _ x=>.q (qUn op x)) (fun s t x=>.cv s t x) (fun _ _=>.bad)
 (fun t x=>.q (qMkI t x)) (fun f xs ys=>.q (qMkF f xs.toList ys.toList)) oxM (fun _ _=>.bad) (fun t l q=>.l (floM t l q)) (fun t x l h m=>.q (qSlc t x l h m))
 (fun t x i=>.q (qFA t x i)) (fun t x i=>.q (qFld t x i)) (fun t x i=>.q (qIxA t x i)) (fun t x i=>.q (qIdx t x i)) (fun t x k ok=>.q (qLook t x k ok)) (fun t x k v=>.k (kSet t x k v)) (fun _ _ _=>.bad)
 (fun _ _ _ _=>.bad) (fun t x=>.k (kRange t x)) (fun x s=>.k (kNext x s)) (fun x=>.q (qEnt x)) (fun x _ t ok=>.q (qTA x t ok)) (fun x i=>.q (qExt x i)) (fun k=>oxC k.callee k.args.toList k.argTypes.toList) (fun _=>.bad) (fun _=>.bad) (fun _=>.bad) (fun _ _=>.bad)
 (fun _ _ _=>.bad) (fun _ _=>.bad) op
def oxT (T:TT) (op:Op) (c:OX->Bool):Bool:=match ox op with
 | .cv s t x=>fO (T t) fun X=>br (c (.q (qConv s t x))) (c (.k (kBytes s t x))) (Nat.beq X.k 4)
 | x=>c x
structure St where
 env:Tr AV
 heap:Tr AO
 nx:Nat
 nt:Nat
abbrev Pn:=List (Nat × List Nat)
inductive Wk where
 | code (c:Code)
 | ops (all l:List Oper)
 | call (g:FuncId) (args:List AV)
 | dr (all:List Oper) (σ:Tr AV) (rem:List (Nat × Oper)) (ve:Tr AV) (pend:Pn) (kept:List (Nat × Oper))
 | ds (all:List Oper) (σ:Tr AV) (ve:Tr AV) (pend:Pn) (kept:List (Nat × Oper))
structure Mem where
 args:List AV
 h:List (Nat × AO)
 nx:Nat
 res:AV
 h':List (Nat × AO)
 nx':Nat
inductive FE where
 | fn (f:Func)
 | ibs
 | memo (ms:List Mem) (f:Func)
def xIbs (args:List AV) (c:QC):Bool:=two_ args fun x y=>fO (asS x) fun l=>fO (byteOf y) fun n=>oE (c (.i .i64 (.negSucc 0))) (fun i=>rN c i) (l.findIdx? (Nat.beq n))
def envd:Nat:=20
def setE (s:St) (d:Option Nat) (v:AV) (c:St->Bool):Bool:=oE (c s) (fun d=>fT (Nat.blt d s.nt) (YS envd s.env d (some v) fun e=>c ⟨e,s.heap,s.nx,s.nt⟩)) d
def args_ (l:List AV):Nat->Tr AV->(Tr AV->Bool)->Bool:=List.rec (fun _ t c=>c t) (fun v _ ih i t c=>YS envd t i (some v) fun t=>ih (Nat.succ i) t c) l
def res1 (x:ResultVar):TT->St->QC->Bool:=match x with
 | .tmp t=>fun _ s c=>fO (s.env.get t) c
 | .cell a t=>fun T s c=>fO (s.env.get a) fun v=>fO (asP v) fun a=>ldv T s.heap t a c
def ress (T:TT) (s:St) (l:List ResultVar):(List AV->Bool)->Bool:=List.rec (fun c=>c []) (fun x _ ih c=>res1 x T s fun v=>ih fun l=>c (v::l)) l
def resl (T:TT) (s:St) (l:List ResultVar) (c:QC):Bool:=ress T s l fun vs=>lE (c (.tup [])) (fun v r=>lE (c v) (fun u q=>c (.tup (v::u::q))) r) vs
def gateV (v:AV):Bool->Option Bool:=match v with
 | .b x=>fun b=>some (x==b)
 | .tup l=>fun _=>lE (some false) (fun _ _=>none) l
 | _=>fun _=>none
def gate (all:List Oper) (env:Tr AV) (g:Option (Nat × Bool)):Option Bool:=oE (some true) (fun jb=>oB (at_ all jb.1) fun o=>oB o.dst fun d=>oB (env.get d) fun v=>gateV v jb.2) g
def rdQ (ops:List Oper) (i:Nat) (o:Oper) (σ ve:Tr AV):RD
 | .tmp t=>oE (σ.get t) (fun j=>br (oB (at_ ops j) fun oj=>oT (waits oj i) (σ.get t)) (ve.get j) (waits o j)) (Wy ops t 0)
 | .const v=>ofV v
 | .func f=>some (.f f [] [])
 | .global _=>none
def gateQ (o:Oper) (ve:Tr AV):Option Bool:=oE (some true) (fun jb=>oT (waits o jb.1) (oB (ve.get jb.1) fun v=>gateV v jb.2)) o.guard
def isT (b:Option Bool):Bool:=oE false (fun b=>b) b
def Yc1 (ve:Tr AV) (o:Oper):Bool:=o.after.toList.any fun e=>Region.binds .any e && (ve.get e.on).isNone
def oEq:Option (Nat × Nat)->Option (Nat × Nat)->Bool
 | none,none=>true
 | some (a,b),some (c,d)=>Nat.beq a c && Nat.beq b d
 | _,_=>false
mutual
def avEq:AV->AV->Bool
 | .b x,.b y=>x==y
 | .i k x,.i k' y=>kEq k k' && iEq x y
 | .s x,.s y=>sEq x y
 | .p a,.p b=>oEq a b
 | .sl a n c s,.sl a' n' c' s'=>oEq a a' && (Nat.beq n n' && (Nat.beq c c' && oEq s s'))
 | .m none,.m none=>true
 | .m (some x),.m (some y)=>Nat.beq x y
 | .f g x y,.f g' x' y'=>Nat.beq g g' && (avsEq x x' && avsEq y y')
 | .nf,.nf=>true
 | .ifc t v,.ifc t' v'=>Nat.beq t t' && avEq v v'
 | .ni,.ni=>true
 | .agg x,.agg y=>avsEq x y
 | .tup x,.tup y=>avsEq x y
 | _,_=>false
def avsEq:List AV->List AV->Bool
 | [],[]=>true
 | x::r,y::q=>avEq x y && avsEq r q
 | _,_=>false
end
def esEq:List (AV × AV × Nat)->List (AV × AV × Nat)->Bool
 | [],[]=>true
 | (a,b,n)::r,(a',b',n')::q=>avEq a a' && (avEq b b' && (Nat.beq n n' && esEq r q))
 | _,_=>false
def onEq:Option Nat->Option Nat->Bool
 | none,none=>true
 | some a,some b=>Nat.beq a b
 | _,_=>false
def aoEq:AO->AO->Bool
 | .cells x e s f,.cells y e' s' f'=>avsEq x y && (Nat.beq e e' && (onEq s s' && (f==f')))
 | .map x c,.map y c'=>esEq x y && Nat.beq c c'
 | .mit m a l b,.mit m' a' l' b'=>onEq m m' && (Nat.beq a a' && (sEq l l' && Nat.beq b b'))
 | _,_=>false
def same (h h':Tr AO):List Nat->Bool
 | []=>true
 | i::r=>fO (h.get i) fun a=>fO (h'.get i) fun b=>fT (aoEq a b) (same h h' r)
def Yia (h h':Tr AO):Pn->Bool
 | []=>true
 | q::r=>fT (same h h' q.2) (Yia h h' r)
def wMap (v:Option AV):List Nat:=match v with
 | some (.m (some g))=>[g]
 | _=>[]
def watch (r:RD) (h:Tr AO) (op:Op):List Nat:=match op with
 | .load _ x=>match r x with
  | some (.p (some a))=>[a.1]
  | _=>[]
 | .lookup _ x _ _=>wMap (r x)
 | .convert _ _ x=>match r x with
  | some (.sl (some a) _ _ _)=>[a.1]
  | _=>[]
 | .entry x=>match r x with
  | some (.p (some a))=>match h.get a.1 with
   | some (.mit (some g) _ _ _)=>[a.1,g]
   | _=>[]
  | _=>[]
 | .call k=>match k.args.toList with
  | [x]=>wMap (r x)
  | _=>[]
 | _=>[]
def restr (h:Tr AO):List Nat->Tr AO->(Tr AO->Bool)->Bool
 | [],t,c=>c t
 | i::r,t,c=>fO (h.get i) fun o=>YS dep t i (some o) fun t=>restr h r t c
def YeX (pend:Pn) (o:Oper):Pn:=pend.filter fun q=>!waits o q.1
def isFl (x:OX):Bool:=match x with
 | .l _=>true
 | _=>false
def fk (o:Oper):Bool:=isFl (ox o.op) && o.guard.isNone
def flo (x:OX):TT->RD->Option (AO × Mk):=match x with
 | .l f=>f
 | _=>fun _ _=>none
def cloA (ve:Tr AV):List (Nat × Oper)->List Nat->List Nat
 | [],acc=>acc
 | p::r,acc=>match fk p.2 && p.2.after.toList.all (fun e=>!Region.binds .any e || ((ve.get e.on).isSome || hasN acc e.on)) with
  | true=>cloA ve r (p.1::acc)
  | false=>cloA ve r acc
def asc:List (Nat × Oper)->Nat->Bool
 | [],_=>true
 | p::r,n=>match Nat.ble n p.1 with
  | true=>asc r (Nat.succ p.1)
  | false=>false
def stuckA (ve:Tr AV) (fls:List Nat) (o:Oper):Bool:=o.after.toList.any fun e=>Region.binds .any e && ((ve.get e.on).isNone && !hasN fls e.on)
def rdD (ops:List Oper) (i:Nat) (o:Oper) (σ ve:Tr AV):RD
 | .tmp t=>match Wy ops t 0 with
  | none=>σ.get t
  | some j=>match waits o j with
   | true=>match ve.get j with
    | some v=>some v
    | none=>some (.p none)
   | false=>oB (at_ ops j) fun oj=>oT (waits oj i) (σ.get t)
 | .const v=>ofV v
 | .func f=>some (.f f [] [])
 | .global _=>none
def Yjb (T:TT) (all:List Oper) (σ ve:Tr AV) (fls:List Nat) (r:List (Nat × Oper)):Bool:=r.all fun p=>match hasN fls p.1 with
 | true=>fk p.2 && (flo (ox p.2.op) T (rdD all p.1 p.2 σ ve)).isSome
 | false=>stuckA ve fls p.2
def hasP (us:List (Nat × Oper)) (n:Nat):Bool:=us.any fun u=>Nat.beq u.1 n
def stuckO (ve:Tr AV) (fls:List Nat) (us:List (Nat × Oper)) (o:Oper):Bool:=o.after.toList.any fun e=>Region.binds .any e && ((ve.get e.on).isNone && !(hasN fls e.on || hasP us e.on))
def restM (T:TT) (all:List Oper) (σ ve:Tr AV) (fls:List Nat) (us r:List (Nat × Oper)):Bool:=r.all fun p=>match hasN fls p.1 with
 | true=>fk p.2 && (us.all (fun u=>!waits p.2 u.1) && (flo (ox p.2.op) T (rdD all p.1 p.2 σ ve)).isSome)
 | false=>stuckO ve fls us p.2 || us.all fun u=>waits p.2 u.1 && !hasN fls u.1
def nowE (ve:Tr AV) (kept:List (Nat × Oper)):List (Nat × Oper):=kept.filter fun p=>!(fk p.2 || Yc1 ve p.2)
def pickF (ve:Tr AV):List (Nat × Oper)->Option (Nat × Oper)
 | []=>none
 | p::r=>match fk p.2 && !Yc1 ve p.2 with
  | true=>some p
  | false=>pickF ve r
def grpO (op:Op):Bool:=opr (fun _=>true) (fun _=>true) (fun _ _ _=>true) (fun _=>false) (fun _ _=>false) (fun _ _=>true) (fun _ _ _=>false) (fun _ _ _ _=>false) (fun _ _=>false) (fun _ _ _=>true) (fun _=>false) (fun _=>false) (fun _=>true) (fun _ _ _ _ _=>true) (fun _ _ _=>true)
 (fun _ _ _=>false) (fun _ _=>false) (fun _ _=>true) (fun _ _ _=>true) (fun _ _=>false) (fun _ _=>false) (fun _ _ _=>false) (fun _ _ _ _ _=>true) (fun _ _ _=>true) (fun _ _ _=>true) (fun _ _ _=>true) (fun _ _ _=>true) (fun _ _ _ _=>false) (fun _ _ _ _=>false) (fun _ _ _=>false)
 (fun _ _ _ _=>false) (fun _ _=>false) (fun _ _=>false) (fun _=>false) (fun _ _ _ _=>true) (fun _ _=>true) (fun _=>false) (fun _=>false) (fun _=>false) (fun _=>false) (fun _ _=>false) (fun _ _ _=>false) (fun _ _=>false) op
def Yiq (ve:Tr AV):List (Nat × Oper)->List (Nat × Oper)->List (Nat × Oper)
 | [],acc=>acc
 | p::r,acc=>match grpO p.2.op && (p.2.guard.isNone && p.2.after.toList.all (fun e=>!Region.binds .any e || ((ve.get e.on).isSome || hasP acc e.on))) with
  | true=>Yiq ve r (acc++ [p])
  | false=>Yiq ve r acc
def asQ (x:OX) (c:QF->Bool):Bool:=match x with
 | .q f=>c f
 | _=>false
def dstK (nt:Nat) (d:Option Nat) (ds:List Nat) (v:AV) (env:Tr AV) (c:List Nat->Tr AV->Bool):Bool:=
 oE (c ds env) (fun d=>fT (!hasN ds d && Nat.blt d nt) (YS envd env d (some v) fun env=>c (d::ds) env)) d
def gRun (T:TT) (nt:Nat) (all:List Oper) (σ:Tr AV) (pend:Pn):List (Nat × Oper)->List (Nat × Nat)->List Nat->Tr AO->Tr AV->Tr AV->(Tr AO->Tr AV->Tr AV->Bool)->Bool
 | [],_,_,h,ve,env,c=>c h ve env
 | p::r,seen,ds,h,ve,env,c=>match p.2.op with
  | .store t x y=>fT (p.2.dst.isNone && p.2.guard.isNone) (fO (rdQ all p.1 p.2 σ ve x) fun v=>fO (asP v) fun a=>fT (seen.all fun z=>!Nat.beq z.1 a.1 || waits p.2 z.2) (fO (T t) fun X=>fO (rdQ all p.1 p.2 σ ve y) fun v=>
   fT (Nat.beq v.cells.length X.size) (putC h a.1 a.2 v.cells fun h'=>fT (Yia h h' (YeX pend p.2)) (YS envd ve p.1 (some (.tup [])) fun ve=>gRun T nt all σ pend r ((a.1,p.1)::seen) ds h' ve env c))))
  | op=>fT p.2.guard.isNone (oxT T op fun x=>asQ x fun f=>f T (rdQ all p.1 p.2 σ ve) .lf fun v=>fT (f T (rdQ all p.1 p.2 σ ve) .lf fun u=>avEq u v) (dstK nt p.2.dst ds v env fun ds env=>
   YS envd ve p.1 (some v) fun ve=>gRun T nt all σ pend r seen ds h ve env c))
def Ybt (pend:Pn):List (Nat × Oper)->Pn
 | []=>pend
 | p::r=>Ybt (YeX pend p.2) r
def YeN:List (Nat × Oper)->List (Nat × Oper)->List (Nat × Oper)
 | [],kept=>kept
 | p::r,kept=>YeN r (rm p.1 kept)
abbrev FF:=Nat->Option FE
abbrev CK:=Exit->St->Bool
abbrev IH:=Wk->St->CK->Bool
def sBlk (id:Nat) (k:CK) (x:Exit) (s:St):Bool:=match x with
 | .exit i=>br (k (.exit i) s) (k .normal s) (Nat.beq i id)
 | x=>k x s
def Yib (ih:IH) (w:Wk) (k:CK) (x:Exit) (s:St):Bool:=match x with
 | .normal=>ih w s k
 | x=>k x s
def sCond (c:Operand) (a b:Code) (ih:IH) (s:St) (k:CK):Bool:=fO (rdo s.env c) fun v=>fO (asB v) fun t=>br (ih (.code b) s k) (ih (.code a) s k) t
def sReg (l:List Oper) (draw:Bool) (ih:IH) (s:St) (k:CK):Bool:=br (ih (.ops l l) s k) (fT (Yar s.nt l 0 [] && YaK l) (ih (.dr l s.env (num 0 l) .lf [] []) s k)) draw
def sCode (c:Code):IH->St->CK->Bool:=codr (fun _ s k=>k .normal s) (fun _ ops d=>sReg ops.toList d) (fun a b ih s k=>ih (.code a) s (Yib ih (.code b) k)) sCond (fun id c ih s k=>ih (.code c) s (sBlk id k))
 (fun c ih s k=>ih (.code c) s (Yib ih (.code (.loop c)) k)) (fun _ _ _ _ _ _ _=>false) (fun id _ s k=>k (.exit id) s) (fun _ _ _ _=>false) (fun _ _ s k=>k .normal s) (fun _ _ _ _=>false) (fun _ s k=>k .ret s) (fun _ _ _ _=>false) c
def isRet (x:Exit):Bool:=match x with
 | .ret=>true
 | .normal=>true
 | _=>false
def sRet (T:TT) (rs:List ResultVar) (nt:Nat) (k:CK) (x:Exit) (s1:St):Bool:=fT (isRet x) (resl T s1 rs fun v=>k .ret ⟨.n .lf (some v) .lf,s1.heap,s1.nx,nt⟩)
def sFn (fn:Func) (T:TT) (ih:IH) (args:List AV) (s:St) (k:CK):Bool:=fT (Nat.ble args.length fn.ntmps) (fO fn.body fun body=>args_ args 0 .lf fun env=>
 ih (.code body) ⟨env,s.heap,s.nx,fn.ntmps⟩ (sRet T fn.results.toList s.nt k))
def subH (h:Tr AO):List (Nat × AO)->Bool
 | []=>true
 | z::r=>match h.get z.1 with
  | some o=>match aoEq o z.2 with
   | true=>subH h r
   | false=>false
  | none=>false
def Yfz:List (Nat × AO)->Tr AO->(Tr AO->Bool)->Bool
 | [],h,c=>c h
 | z::r,h,c=>YS dep h z.1 (some z.2) fun h=>Yfz r h c
def Ye7:List (Nat × AO)->Tr AO->(Tr AO->Bool)->Bool
 | [],h,c=>c h
 | z::r,h,c=>YS dep h z.1 none fun h=>Ye7 r h c
def fits (args:List AV) (s:St):List Mem->Option Mem
 | []=>none
 | m::r=>match avsEq m.args args with
  | true=>match Nat.ble s.nx m.nx && (Nat.ble m.nx m.nx' && subH s.heap m.h) with
   | true=>some m
   | false=>fits args s r
  | false=>fits args s r
def sMemo (ms:List Mem) (fn:Func) (T:TT) (ih:IH) (args:List AV) (s:St) (k:CK):Bool:=oE (sFn fn T ih args s k)
 (fun m=>Ye7 m.h s.heap fun h=>Yfz m.h' h fun h=>k .ret ⟨.n .lf (some m.res) .lf,h,m.nx',s.nt⟩) (fits args s ms)
def sFE (f:FE):TT->IH->List AV->St->CK->Bool:=match f with
 | .fn fn=>sFn fn
 | .ibs=>fun _ _ args s k=>xIbs args fun v=>k .ret ⟨.n .lf (some v) .lf,s.heap,s.nx,s.nt⟩
 | .memo ms fn=>sMemo ms fn
def sCall (g:FuncId) (args:List AV) (T:TT) (F:FF) (ih:IH) (s:St) (k:CK):Bool:=fO (F g) fun f=>sFE f T ih args s k
def sVal (f:Operand) (xs:List Operand) (ih:IH) (r:RD) (s:St) (c:KC):Bool:=fO (r f) fun v=>fO (asF v) fun g=>fO (rdos r xs) fun vs=>fL (g.2.1++(vs++g.2.2)) fun vs=>
 ih (.call g.1 vs) s fun _ s1=>fO (s1.env.get 0) fun v=>c v s1.heap s1.nx
def sDo (x:OX):TT->IH->RD->St->KC->Bool:=match x with
 | .q f=>fun T _ r s c=>f T r s.heap fun v=>c v s.heap s.nx
 | .l f=>fun T _ r s c=>kNew f T r s.heap s.nx c
 | .k f=>fun T _ r s c=>f T r s.heap s.nx c
 | .call f xs=>fun _ ih r s c=>sVal f xs ih r s c
 | _=>fun _ _ _ _ _=>false
def sGo (T:TT) (ih:IH) (all:List Oper) (o:Oper) (r:List Oper) (s:St) (k:CK):Bool:=oxT T o.op fun x=>sDo x T ih (rdo s.env) s fun v h nx=>setE ⟨s.env,h,nx,s.nt⟩ o.dst v fun s=>ih (.ops all r) s k
def sOps (all l:List Oper) (T:TT) (ih:IH) (s:St) (k:CK):Bool:=lE (k .normal s) (fun o r=>fO (gate all s.env o.guard) fun b=>br (setE s o.dst (.tup []) fun s=>ih (.ops all r) s k) (sGo T ih all o r s k) b) l
def sQ (f:QF) (T:TT) (ih:IH) (all:List Oper) (σ:Tr AV) (i:Nat) (o:Oper) (r:List (Nat × Oper)) (ve:Tr AV) (pend:Pn) (kept:List (Nat × Oper)) (s:St) (k:CK):Bool:=
 fL (watch (rdQ all i o σ ve) s.heap o.op) fun ws=>restr s.heap ws .lf fun hw=>f T (rdQ all i o σ ve) hw fun v=>
  YS envd ve i (some v) fun ve=>setE s o.dst v fun s=>ih (.dr all σ r ve ((i,ws)::pend) kept) s k
def Yi6 (ih:IH) (all:List Oper) (σ:Tr AV) (i:Nat) (o:Oper) (r:List (Nat × Oper)) (ve:Tr AV) (pend:Pn) (kept:List (Nat × Oper)) (s:St) (k:CK):Bool:=
 fL (kept++ [(i,o)]) fun kept=>ih (.dr all σ r ve pend kept) s k
def sDrX (x:OX) (T:TT) (ih:IH) (all:List Oper) (σ:Tr AV) (i:Nat) (o:Oper) (r:List (Nat × Oper)) (ve:Tr AV) (pend:Pn) (kept:List (Nat × Oper)) (s:St) (k:CK):Bool:=match x with
 | .q f=>sQ f T ih all σ i o r ve pend kept s k
 | _=>Yi6 ih all σ i o r ve pend kept s k
def sDr1 (T:TT) (ih:IH) (all:List Oper) (σ:Tr AV) (i:Nat) (o:Oper) (r:List (Nat × Oper)) (ve:Tr AV) (pend:Pn) (kept:List (Nat × Oper)) (s:St) (k:CK):Bool:=
 br (fO (gateQ o ve) fun b=>br (YS envd ve i (some (.tup [])) fun ve=>setE s o.dst (.tup []) fun s=>ih (.dr all σ r ve ((i,[])::pend) kept) s k)
  (oxT T o.op fun x=>sDrX x T ih all σ i o r ve pend kept s k) b)
  (Yi6 ih all σ i o r ve pend kept s k) (fk o || Yc1 ve o)
def sDr (all:List Oper) (σ:Tr AV) (rem:List (Nat × Oper)) (ve:Tr AV) (pend:Pn) (kept:List (Nat × Oper)) (T:TT) (ih:IH) (s:St) (k:CK):Bool:=
 lE (ih (.ds all σ ve pend kept) s k) (fun p r=>sDr1 T ih all σ p.1 p.2 r ve pend kept s k) rem
def sOne (T:TT) (ih:IH) (all:List Oper) (σ:Tr AV) (i:Nat) (o:Oper) (ve:Tr AV) (pend:Pn) (kept:List (Nat × Oper)) (s:St) (k:CK):Bool:=
 fT (isT (gateQ o ve) && (asc kept 0 && Yjb T all σ ve (cloA ve kept []) (rm i kept)))
  (fL (YeX pend o) fun left=>oxT T o.op fun x=>sDo x T ih (rdQ all i o σ ve) s fun v h nx=>fT (Yia s.heap h left)
   (YS envd ve i (some v) fun ve=>setE ⟨s.env,h,nx,s.nt⟩ o.dst v fun s=>fL (rm i kept) fun r=>ih (.dr all σ r ve left []) s k))
def sFlo (T:TT) (ih:IH) (all:List Oper) (σ:Tr AV) (ve:Tr AV) (pend:Pn) (kept:List (Nat × Oper)) (s:St) (k:CK):Bool:=
 fO (pickF ve kept) fun p=>fT (asc kept 0 && Yjb T all σ ve (cloA ve (rm p.1 kept) []) (rm p.1 kept))
  (kNew (flo (ox p.2.op)) T (rdQ all p.1 p.2 σ ve) s.heap s.nx fun v h nx=>YS envd ve p.1 (some v) fun ve=>setE ⟨s.env,h,nx,s.nt⟩ p.2.dst v fun s=>fL (rm p.1 kept) fun r=>ih (.dr all σ r ve pend []) s k)
def sGrp (T:TT) (ih:IH) (all:List Oper) (σ:Tr AV) (ve:Tr AV) (pend:Pn) (kept:List (Nat × Oper)) (s:St) (k:CK):Bool:=
 fL (Yiq ve kept []) fun us=>fL (cloA ve kept []) fun fls=>fT (asc kept 0 && (us.all (fun u=>(ve.get u.1).isNone && (!fk u.2 && (!hasN fls u.1 && hasP kept u.1))) && (asc us 0 && (!us.isEmpty && restM T all σ ve fls us (YeN us kept)))))
  (gRun T s.nt all σ pend us [] [] s.heap ve s.env fun h ve env=>fL (YeN us kept) fun r=>fL (Ybt pend us) fun left=>ih (.dr all σ r ve left []) ⟨env,h,s.nx,s.nt⟩ k)
def sDs (all:List Oper) (σ:Tr AV) (ve:Tr AV) (pend:Pn) (kept:List (Nat × Oper)) (T:TT) (ih:IH) (s:St) (k:CK):Bool:=lE (k .normal s)
 (fun _ _=>lE (sFlo T ih all σ ve pend kept s k) (fun p us=>lE (sOne T ih all σ p.1 p.2 ve pend kept s k) (fun _ _=>sGrp T ih all σ ve pend kept s k) us) (nowE ve kept)) kept
def step (w:Wk):TT->FF->IH->St->CK->Bool:=match w with
 | .code c=>fun _ _ ih s k=>sCode c ih s k
 | .ops all l=>fun T _ ih s k=>sOps all l T ih s k
 | .call g args=>fun T F ih s k=>sCall g args T F ih s k
 | .dr all σ rem ve pend kept=>fun T _ ih s k=>sDr all σ rem ve pend kept T ih s k
 | .ds all σ ve pend kept=>fun T _ ih s k=>sDs all σ ve pend kept T ih s k
def ev (T:TT) (F:FF) (n:Nat):Wk->St->CK->Bool:=Nat.rec (fun _ _ _=>false) (fun _ ih w s k=>step w T F ih s k) n
def evCall (T:TT) (F:FF) (n:Nat) (f:FuncId) (args:List AV) (k:AV->Bool):Bool:=
 ev T F n (.call f args) ⟨.lf,.lf,0,0⟩ fun _ s=>fO (s.env.get 0) k
def k0 (m:Mem) (_:Exit) (s:St):Bool:=fO (s.env.get 0) fun v=>avEq v m.res && (subH s.heap m.h' && Nat.ble s.nx m.nx')
def evMem (T:TT) (F:FF) (n:Nat) (f:FuncId) (m:Mem):Bool:=(Yfz m.h .lf fun h=>ev T F n (.call f m.args) ⟨.lf,h,m.nx,0⟩ (k0 m))
end
end Go.Ev
namespace Go.Ev
open Go.Lx Go.RowKit
variable {α β:Type} {b:Bool} {i j c:Nat} {v:Value} {l:List α}
theorem YgX (f t:α) (b:Bool):br f t b=if b=true then t else f:=by cases b<;>rfl
theorem Y4 (f t:α):br f t true=t:=rfl
theorem YF (f t:α):br f t false=f:=rfl
theorem Yf {o:Option α} {c:α->Bool} (h:fO o c=true):∃ x,o=some x/\c x=true:=by
 cases o with
 | none=>cases h
 | some x=>exact ⟨x,rfl,h⟩
theorem YB {o:Option α} {f:α->Option β} {y:β} (h:oB o f=some y):∃ x,o=some x/\f x=some y:=by
 cases o with
 | none=>cases h
 | some x=>exact ⟨x,rfl,h⟩
theorem Wl (n:β) (f:α->β):oE n f none=n:=rfl
theorem XQ (n:β) (f:α->β) (x:α):oE n f (some x)=f x:=rfl
theorem YE {x:Bool} (h:fT b x=true):b=true/\x=true:=by
 cases b with
 | false=>cases h
 | true=>exact ⟨rfl,h⟩
theorem YZ {x:Option β} {y:β} (h:oT b x=some y):b=true/\x=some y:=by
 cases b with
 | false=>cases h
 | true=>exact ⟨rfl,h⟩
theorem YaL (n:Nat) (c:Nat->Bool):fN n c=c n:=by cases n<;>rfl
theorem fI_eq (n:Int) (c:Int->Bool):fI n c=c n:=by
 cases n with
 | ofNat m=>exact YaL m fun m=>c (.ofNat m)
 | negSucc m=>exact YaL m fun m=>c (.negSucc m)
theorem fS_eq:∀ (l:List Nat) (c:List Nat->Bool),fS l c=c l
 | [],_=>rfl
 | x::r,c=>(YaL x fun x=>fS r fun r=>c (x::r)).trans (fS_eq r fun r=>c (x::r))
theorem Wq {α:Type}:∀ (l:List α) (c:List α->Bool),fL l c=c l
 | [],_=>rfl
 | x::r,c=>Wq r fun r=>c (x::r)
theorem Yhy (n:β) (f:α->List α->β):lE n f []=n:=rfl
theorem Yb9 (n:β) (f:α->List α->β) (x:α) (r:List α):lE n f (x::r)=f x r:=rfl
theorem YdU (i:Nat):(Tr.lf:Tr α).get i=none:=rfl
theorem Yaj (l r:Tr α) (v:Option α) (i:Nat):(Tr.n l v r).get i=br (br (r.get (Nat.pred (Nat.div i 2))) (l.get (Nat.div i 2)) (Nat.beq (Nat.mod i 2) 1)) v (Nat.beq i 0):=rfl
theorem Xa {a b:Nat} (h:a≠b):Nat.beq a b=false:=by
 cases hb:Nat.beq a b with
 | false=>rfl
 | true=>exact absurd (Nat.eq_of_beq_eq_true hb) h
def Tr.upd {α:Type} (t:Tr α) (i:Nat) (x:Option α) (t':Tr α):Prop:=∀ j,t'.get j=if j=i then x else t.get j
theorem YC {α:Type}:∀ (n:Nat) (t:Tr α) (i:Nat) (x:Option α) (c:Tr α->Bool),YS n t i x c=true->∃ t',t.upd i x t'/\c t'=true
 | 0,_,_,_,_,h=>by cases h
 | m+1,t,i,x,c,h=>by
  have key:∀ (l:Tr α) (v:Option α) (r:Tr α),(∀ j,t.get j=(Tr.n l v r).get j)->YdT (YS m) i x c l v r=true->∃ t',t.upd i x t'/\c t'=true:=by
   intro l v r hg hs;unfold YdT at hs;by_cases h0:i=0
   ·subst h0;refine ⟨.n l x r,fun j=>?_,hs⟩;rw [hg,Yaj,Yaj];by_cases hj:j=0
    ·subst hj;simp [Y4]
    rw [Xa hj];simp only [YF,if_neg hj]
   rw [Xa h0,YF] at hs;by_cases h1:Nat.mod i 2=1
   ·rw [h1] at hs;obtain ⟨t',hu,hc⟩:=YC m _ _ _ _ hs;refine ⟨_,fun j=>?_,hc⟩;rw [hg,Yaj,Yaj];by_cases hj:j=0
    ·subst hj;rw [if_neg (fun h=>h0 h.symm)];rfl
    rw [Xa hj];simp only [YF];by_cases hj1:Nat.mod j 2=1
    ·rw [hj1];simp only [Nat.beq_refl,Y4];rw [hu (Nat.div j 2)];have:(Nat.div j 2=Nat.div i 2)↔j=i:=by
      have e1:j % 2=1:=hj1;have e2:i % 2=1:=h1;have e3:Nat.div j 2=j / 2:=rfl;have e4:Nat.div i 2=i / 2:=rfl;rw [e3,e4];omega
     by_cases hji:j=i
     ·rw [if_pos hji,if_pos (this.2 hji)]
     rw [if_neg hji,if_neg (fun h=>hji (this.1 h))]
    rw [Xa hj1];simp only [YF];rw [if_neg (fun h=>by subst h;exact hj1 h1)]
   rw [Xa h1,YF] at hs;obtain ⟨t',hu,hc⟩:=YC m _ _ _ _ hs;refine ⟨_,fun j=>?_,hc⟩;rw [hg,Yaj,Yaj];by_cases hj:j=0
   ·subst hj;rw [if_neg (fun h=>h0 h.symm)];rfl
   rw [Xa hj];simp only [YF];by_cases hj1:Nat.mod j 2=1
   ·rw [hj1];simp only [Nat.beq_refl,Y4];rw [if_neg (fun h=>by subst h;exact h1 hj1)]
   rw [Xa hj1];simp only [YF];rw [hu (Nat.pred (Nat.div j 2))];have:(Nat.pred (Nat.div j 2)=Nat.pred (Nat.div i 2))↔j=i:=by
    have e1:¬j % 2=1:=hj1;have e2:¬i % 2=1:=h1;have e3:Nat.pred (Nat.div j 2)=j / 2 - 1:=rfl;have e4:Nat.pred (Nat.div i 2)=i / 2 - 1:=rfl;rw [e3,e4];omega
   by_cases hji:j=i
   ·rw [if_pos hji,if_pos (this.2 hji)]
   rw [if_neg hji,if_neg (fun h=>hji (this.1 h))]
  cases t with
  | lf=>exact key .lf none .lf (fun j=>by rw [YdU,Yaj,YdU,YdU];cases Nat.beq j 0<;>cases Nat.beq (Nat.mod j 2) 1<;>rfl) h
  | n l v r=>exact key l v r (fun _=>rfl) h
structure Nu where
 blk:Nat->Option Nat
 cap:Nat->Option Nat
 slk:Nat->Option (List Value)
structure Nu.le (a b:Nu):Prop where
 blk:∀ i x,a.blk i=some x->b.blk i=some x
 cap:∀ i x,a.cap i=some x->b.cap i=some x
 slk:∀ i x,a.slk i=some x->b.slk i=some x
theorem Nu.le.refl (a:Nu):a.le a:=⟨fun _ _ h=>h,fun _ _ h=>h,fun _ _ h=>h⟩
theorem Nu.le.trans {a b c:Nu} (h:a.le b) (k:b.le c):a.le c:=⟨fun i x hx=>k.blk i x (h.blk i x hx),fun i x hx=>k.cap i x (h.cap i x hx),fun i x hx=>k.slk i x (h.slk i x hx)⟩
def bs (l:List Nat):Bs:=⟨(l.map UInt8.ofNat).toArray⟩
def gA (ν:Nu):Option (Nat × Nat)->Option (Option Addr)
 | none=>some none
 | some a=>(ν.blk a.1).map fun b=>some ⟨b,a.2,none⟩
def gC (ν:Nu) (lo:Nat):Option (Nat × Nat)->Option Nat
 | none=>some lo
 | some q=>match ν.cap q.1 with
  | some c=>if q.2+lo<=c then some (c - q.2) else none
  | none=>none
def gM (ν:Nu):Option Nat->Option (Option Nat)
 | none=>some none
 | some i=>(ν.blk i).map some
mutual
def gv (ν:Nu):AV->Option Value
 | .b x=>some (.bool x)
 | .i k n=>some (.int k n)
 | .s x=>if x.all (fun n=>Nat.blt n 256)=true then some (.string (bs x)) else none
 | .p a=>(gA ν a).map .pointer
 | .sl a len lo sym=>match gA ν a,gC ν lo sym with
  | some A,some c=>if len<=lo then some (.slice A len c) else none
  | _,_=>none
 | .m r=>(gM ν r).map .map
 | .f g x y=>match gvs ν x,gvs ν y with
  | some us,some vs=>some (.func (.func g) us.toArray vs.toArray)
  | _,_=>none
 | .nf=>some .nilFunc
 | .ifc t v=>(gv ν v).map (.iface t)
 | .ni=>some .nilIface
 | .agg cs=>(gvs ν cs).map fun l=>.agg l.toArray
 | .tup cs=>(gvs ν cs).map fun l=>.tuple l.toArray
def gvs (ν:Nu):List AV->Option (List Value)
 | []=>some []
 | v::r=>match gv ν v,gvs ν r with
  | some x,some l=>some (x::l)
  | _,_=>none
end
def ges (ν:Nu):List (AV × AV × Nat)->Option (List MapEntry)
 | []=>some []
 | e::r=>match gv ν e.1,gv ν e.2.1,ges ν r with
  | some k,some v,some l=>some (⟨k,v,e.2.2⟩::l)
  | _,_,_=>none
def gS (ν:Nu):Option Nat->Option (List Value)
 | none=>some []
 | some j=>ν.slk j
def frz (fr:Bool) (n:Nat):Nat × Nat:=if fr=true then (n,n+1) else (0,0)
def go (ν:Nu):AO->Option Obj
 | .cells cs e sl fr=>match gvs ν cs,gS ν sl with
  | some vs,some l=>some (.cells (vs++l).toArray e (frz fr (vs++l).length))
  | _,_=>none
 | .map es clock=>(ges ν es).map fun l=>.map l.toArray clock
 | .mit m a l b=>(gM ν m).map fun r=>.mapIter r a l.toArray b
theorem gA_mono {ν ν':Nu} (h:ν.le ν') {a:Option (Nat × Nat)} {x:Option Addr} (hx:gA ν a=some x):gA ν' a=some x:=by
 cases a with
 | none=>exact hx
 | some a=>
  simp only [gA] at hx ⊢;cases hb:ν.blk a.1 with
  | none=>simp [hb] at hx
  | some b=>rw [h.blk _ _ hb];rw [hb] at hx;exact hx
theorem gC_mono {ν ν':Nu} (h:ν.le ν') {lo:Nat} {q:Option (Nat × Nat)} {x:Nat} (hx:gC ν lo q=some x):gC ν' lo q=some x:=by
 cases q with
 | none=>exact hx
 | some q=>
  simp only [gC] at hx ⊢;cases hb:ν.cap q.1 with
  | none=>simp [hb] at hx
  | some b=>rw [h.cap _ _ hb];rw [hb] at hx;exact hx
theorem gM_mono {ν ν':Nu} (h:ν.le ν') {a:Option Nat} {x:Option Nat} (hx:gM ν a=some x):gM ν' a=some x:=by
 cases a with
 | none=>exact hx
 | some a=>
  simp only [gM] at hx ⊢;cases hb:ν.blk a with
  | none=>simp [hb] at hx
  | some b=>rw [h.blk _ _ hb];rw [hb] at hx;exact hx
mutual
theorem gv_mono {ν ν':Nu} (h:ν.le ν'):∀ (a:AV) (v:Value),gv ν a=some v->gv ν' a=some v
 | .b _,_,hv=>by simpa [gv] using hv
 | .i _ _,_,hv=>by simpa [gv] using hv
 | .s _,_,hv=>by simpa [gv] using hv
 | .p a,v,hv=>by
  simp only [gv] at hv ⊢;cases ha:gA ν a with
  | none=>simp [ha] at hv
  | some A=>rw [gA_mono h ha];rw [ha] at hv;exact hv
 | .sl a len lo sym,v,hv=>by
  simp only [gv] at hv ⊢;cases ha:gA ν a with
  | none=>simp [ha] at hv
  | some A=>
   cases hc:gC ν lo sym with
   | none=>simp [ha,hc] at hv
   | some c=>rw [gA_mono h ha,gC_mono h hc];rw [ha,hc] at hv;exact hv
 | .m r,v,hv=>by
  simp only [gv] at hv ⊢;cases ha:gM ν r with
  | none=>simp [ha] at hv
  | some A=>rw [gM_mono h ha];rw [ha] at hv;exact hv
 | .f g x y,v,hv=>by
  simp only [gv] at hv ⊢;cases hx:gvs ν x with
  | none=>simp [hx] at hv
  | some us=>
   cases hy:gvs ν y with
   | none=>simp [hx,hy] at hv
   | some vs=>rw [gvs_mono h x us hx,gvs_mono h y vs hy];rw [hx,hy] at hv;exact hv
 | .nf,_,hv=>by simpa [gv] using hv
 | .ifc t a,v,hv=>by
  simp only [gv] at hv ⊢;cases ha:gv ν a with
  | none=>simp [ha] at hv
  | some A=>rw [gv_mono h a A ha];rw [ha] at hv;exact hv
 | .ni,_,hv=>by simpa [gv] using hv
 | .agg cs,v,hv=>by
  simp only [gv] at hv ⊢;cases ha:gvs ν cs with
  | none=>simp [ha] at hv
  | some A=>rw [gvs_mono h cs A ha];rw [ha] at hv;exact hv
 | .tup cs,v,hv=>by
  simp only [gv] at hv ⊢;cases ha:gvs ν cs with
  | none=>simp [ha] at hv
  | some A=>rw [gvs_mono h cs A ha];rw [ha] at hv;exact hv
theorem gvs_mono {ν ν':Nu} (h:ν.le ν'):∀ (l:List AV) (vs:List Value),gvs ν l=some vs->gvs ν' l=some vs
 | [],_,hv=>by simpa [gvs] using hv
 | a::r,vs,hv=>by
  simp only [gvs] at hv ⊢;cases ha:gv ν a with
  | none=>simp [ha] at hv
  | some x=>
   cases hr:gvs ν r with
   | none=>simp [ha,hr] at hv
   | some l=>rw [gv_mono h a x ha,gvs_mono h r l hr];rw [ha,hr] at hv;exact hv
end
theorem YhD {ν ν':Nu} (h:ν.le ν'):∀ (l:List (AV × AV × Nat)) (es:List MapEntry),ges ν l=some es->ges ν' l=some es
 | [],_,hv=>by simpa [ges] using hv
 | e::r,es,hv=>by
  simp only [ges] at hv ⊢;cases ha:gv ν e.1 with
  | none=>simp [ha] at hv
  | some x=>
   cases hb:gv ν e.2.1 with
   | none=>simp [ha,hb] at hv
   | some y=>
    cases hr:ges ν r with
    | none=>simp [ha,hb,hr] at hv
    | some l=>rw [gv_mono h _ _ ha,gv_mono h _ _ hb,YhD h r l hr];rw [ha,hb,hr] at hv;exact hv
theorem YdC {ν ν':Nu} (h:ν.le ν') {a:AO} {o:Obj} (ho:go ν a=some o):go ν' a=some o:=by
 cases a with
 | cells cs e sl fr=>
  simp only [go] at ho ⊢;cases ha:gvs ν cs with
  | none=>simp [ha] at ho
  | some vs=>
   cases hs:gS ν sl with
   | none=>simp [ha,hs] at ho
   | some l=>
    have hs':gS ν' sl=some l:=by
     cases sl with
     | none=>exact hs
     | some j=>exact h.slk _ _ hs
    rw [gvs_mono h _ _ ha,hs'];rw [ha,hs] at ho;exact ho
 | map es clock=>
  simp only [go] at ho ⊢;cases ha:ges ν es with
  | none=>simp [ha] at ho
  | some l=>rw [YhD h _ _ ha];rw [ha] at ho;exact ho
 | mit m a l b=>
  simp only [go] at ho ⊢;cases ha:gM ν m with
  | none=>simp [ha] at ho
  | some r=>rw [gM_mono h ha];rw [ha] at ho;exact ho
theorem Ybn {α:Type}:∀ {l:List α} {i:Nat} {x:α},at_ l i=some x->l[i]?=some x
 | [],_,_,h=>by cases h
 | y::r,0,x,h=>by simpa [at_] using h
 | y::r,i+1,x,h=>by
  have:at_ r i=some x:=h;simpa using Ybn this
theorem YiP {α:Type}:∀ {n:Nat} {l r:List α},tk n l=some r->n<=l.length/\r=l.take n
 | 0,l,r,h=>by simp [tk] at h;subst h;simp
 | n+1,[],r,h=>by simp [tk] at h
 | n+1,x::l,r,h=>by
  simp only [tk] at h;cases ht:tk n l with
  | none=>simp [ht] at h
  | some q=>
   simp only [ht] at h;injection h with h
   obtain ⟨h1,h2⟩:=YiP ht;subst h h2;exact ⟨by simp;omega,by simp⟩
theorem dp_iff {α:Type}:∀ {n:Nat} {l r:List α},dp n l=some r->n<=l.length/\r=l.drop n
 | 0,l,r,h=>by simp [dp] at h;subst h;simp
 | n+1,[],r,h=>by simp [dp] at h
 | n+1,x::l,r,h=>by
  simp only [dp] at h;obtain ⟨h1,h2⟩:=dp_iff h;exact ⟨by simp;omega,by simpa using h2⟩
theorem Yho {r:List α} {n:Nat} (h:Yit l i n=some r):i+n<=l.length/\r=(l.drop i).take n:=by
 unfold Yit at h;cases hd:dp i l with
 | none=>simp [hd] at h
 | some q=>
  simp only [hd] at h;obtain ⟨h1,h2⟩:=dp_iff hd;obtain ⟨h3,h4⟩:=YiP h;subst h2;simp at h3;exact ⟨by omega,h4⟩
theorem Yg8 {α:Type}:∀ {cs:List α} {j:Nat} {vs cs':List α},wr cs j vs=some cs'->j+vs.length<=cs.length/\cs'=cs.take j++vs++cs.drop (j+vs.length)
 | cs,0,[],cs',h=>by simp only [wr] at h;injection h with h;simp [h]
 | [],0,v::vs,cs',h=>by simp [wr] at h
 | [],j+1,vs,cs',h=>by simp [wr] at h
 | c::cs,0,v::vs,cs',h=>by
  simp only [wr] at h;cases hw:wr cs 0 vs with
  | none=>simp [hw] at h
  | some l=>
   simp only [hw] at h;injection h with h
   obtain ⟨h1,h2⟩:=Yg8 hw;subst h h2;simp at h1 ⊢;exact h1
 | c::cs,j+1,vs,cs',h=>by
  simp only [wr] at h;cases hw:wr cs j vs with
  | none=>simp [hw] at h
  | some l=>
   simp only [hw] at h;injection h with h
   obtain ⟨h1,h2⟩:=Yg8 hw;subst h h2;refine ⟨by simp;omega,?_⟩;rw [show j+1+vs.length=(j+vs.length)+1 from by omega];simp
theorem XA {ν:Nu} {a:AV} {r:List AV} {vs:List Value} (h:gvs ν (a::r)=some vs):∃ x l,gv ν a=some x/\gvs ν r=some l/\vs=x::l:=by
 simp only [gvs] at h;cases ha:gv ν a with
 | none=>simp [ha] at h
 | some x=>
  cases hr:gvs ν r with
  | none=>simp [ha,hr] at h
  | some l=>simp only [ha,hr] at h;injection h with h;exact ⟨x,l,rfl,rfl,h.symm⟩
theorem YdB {ν:Nu} {a:AV} {r:List AV} {x:Value} {l:List Value} (h1:gv ν a=some x) (h2:gvs ν r=some l):gvs ν (a::r)=some (x::l):=by simp only [gvs,h1,h2]
theorem Y9 {ν:Nu}:∀ {l:List AV} {vs:List Value},gvs ν l=some vs->vs.length=l.length
 | [],vs,h=>by simp [gvs] at h;subst h;rfl
 | a::r,vs,h=>by
  obtain ⟨x,l,_,hr,rfl⟩:=XA h;simp [Y9 hr]
theorem Yca {ν:Nu}:∀ {l:List AV} {vs:List Value} {i:Nat} {a:AV},gvs ν l=some vs->l[i]?=some a->∃ v,vs[i]?=some v/\gv ν a=some v
 | [],_,_,_,_,h=>by simp at h
 | b::r,vs,0,a,h,hi=>by
  obtain ⟨x,l,ha,hr,rfl⟩:=XA h;simp at hi;subst hi;exact ⟨x,by simp,ha⟩
 | b::r,vs,i+1,a,h,hi=>by
  obtain ⟨x,l,ha,hr,rfl⟩:=XA h;obtain ⟨v,h1,h2⟩:=Yca hr (by simpa using hi);exact ⟨v,by simpa using h1,h2⟩
theorem YcX {ν:Nu}:∀ (n:Nat) {l:List AV} {vs:List Value},gvs ν l=some vs->gvs ν (l.take n)=some (vs.take n)
 | 0,l,vs,_=>by simp [gvs]
 | n+1,[],vs,h=>by simp [gvs] at h;subst h;simp [gvs]
 | n+1,a::r,vs,h=>by
  obtain ⟨x,l,ha,hr,rfl⟩:=XA h;simpa using YdB ha (YcX n hr)
theorem Ye3 {ν:Nu}:∀ (n:Nat) {l:List AV} {vs:List Value},gvs ν l=some vs->gvs ν (l.drop n)=some (vs.drop n)
 | 0,l,vs,h=>by simpa using h
 | n+1,[],vs,h=>by simp [gvs] at h;subst h;simp [gvs]
 | n+1,a::r,vs,h=>by
  obtain ⟨x,l,ha,hr,rfl⟩:=XA h;simpa using Ye3 n hr
theorem We {ν:Nu}:∀ {l r:List AV} {us vs:List Value},gvs ν l=some us->gvs ν r=some vs->gvs ν (l++r)=some (us++vs)
 | [],r,us,vs,h,k=>by simp [gvs] at h;subst h;simpa using k
 | a::q,r,us,vs,h,k=>by
  obtain ⟨x,l,ha,hr,rfl⟩:=XA h;simpa using YdB ha (We hr k)
theorem YbN {ν:Nu} {l r:List AV} {vs:List Value} {n:Nat} (h:gvs ν l=some vs) (hp:Yit l i n=some r):i+n<=vs.length/\gvs ν r=some ((vs.drop i).take n):=by
 obtain ⟨h1,h2⟩:=Yho hp;subst h2;exact ⟨by rw [Y9 h];exact h1,YcX n (Ye3 i h)⟩
theorem Yj7 {ν:Nu} {cs vs cs':List AV} {us ws:List Value} (h:gvs ν cs=some us) (hv:gvs ν vs=some ws) (hw:wr cs j vs=some cs'):
 j+ws.length<=us.length/\gvs ν cs'=some (us.take j++ws++us.drop (j+ws.length)):=by
 obtain ⟨h1,h2⟩:=Yg8 hw;subst h2;rw [Y9 hv,Y9 h];exact ⟨h1,We (We (YcX j h) hv) (Ye3 _ h)⟩
theorem YbO {ν:Nu} {a:AV} (h:gv ν a=some v):gvs ν a.cells=some v.cells.toList:=by
 cases a with
 | agg cs=>
  simp only [gv] at h;cases hc:gvs ν cs with
  | none=>simp [hc] at h
  | some l=>simp [hc] at h;subst h;simpa [AV.cells,Value.cells] using hc
 | b x=>simp only [gv] at h;injection h with h;subst h;simp [AV.cells,gvs,gv,Value.cells]
 | i k n=>simp only [gv] at h;injection h with h;subst h;simp [AV.cells,gvs,gv,Value.cells]
 | s x=>
  have h':=h;simp only [gv] at h;split at h
  ·injection h with h;subst h;simp only [AV.cells,gvs,h',Value.cells]
  cases h
 | p a=>
  have h':=h;simp only [gv] at h;cases ha:gA ν a with
  | none=>simp [ha] at h
  | some A=>simp [ha] at h;subst h;simp only [AV.cells,gvs,h',Value.cells]
 | sl a n c s=>
  have h':=h;simp only [gv] at h;cases ha:gA ν a with
  | none=>simp [ha] at h
  | some A=>
   cases hc:gC ν c s with
   | none=>simp [ha,hc] at h
   | some cc=>
    simp only [ha,hc] at h;split at h
    ·injection h with h;subst h;simp only [AV.cells,gvs,h',Value.cells]
    cases h
 | m r=>
  have h':=h;simp only [gv] at h;cases ha:gM ν r with
  | none=>simp [ha] at h
  | some A=>simp [ha] at h;subst h;simp only [AV.cells,gvs,h',Value.cells]
 | f g x y=>
  have h':=h;simp only [gv] at h;cases hx:gvs ν x with
  | none=>simp [hx] at h
  | some us=>
   cases hy:gvs ν y with
   | none=>simp [hx,hy] at h
   | some vs=>simp only [hx,hy] at h;injection h with h;subst h;simp only [AV.cells,gvs,h',Value.cells]
 | nf=>simp only [gv] at h;injection h with h;subst h;simp [AV.cells,gvs,gv,Value.cells]
 | ifc t w=>
  have h':=h;simp only [gv] at h;cases hw:gv ν w with
  | none=>simp [hw] at h
  | some A=>simp [hw] at h;subst h;simp only [AV.cells,gvs,h',Value.cells]
 | ni=>simp only [gv] at h;injection h with h;subst h;simp [AV.cells,gvs,gv,Value.cells]
 | tup cs=>
  have h':=h;simp only [gv] at h;cases hc:gvs ν cs with
  | none=>simp [hc] at h
  | some l=>simp [hc] at h;subst h;simp only [AV.cells,gvs,h',Value.cells]
section
variable {ν:Nu} {a:AV} {v:Value}
theorem YaO {x:Bool} (h:asB a=some x) (hv:gv ν a=some v):v=.bool x:=by
 cases a<;>simp [asB] at h;subst h;simp only [gv] at hv;injection hv with hv;exact hv.symm
theorem WJ {x:IntKind × Int} (h:asI a=some x) (hv:gv ν a=some v):v=.int x.1 x.2:=by
 cases a<;>simp [asI] at h;subst h;simp only [gv] at hv;injection hv with hv;exact hv.symm
theorem Wa {x:List Nat} (h:asS a=some x) (hv:gv ν a=some v):v=.string (bs x)/\x.all (fun n=>Nat.blt n 256)=true:=by
 cases a<;>simp [asS] at h;subst h;simp only [gv] at hv;split at hv
 ·rename_i hx;injection hv with hv;exact ⟨hv.symm,hx⟩
 cases hv
theorem Yam {x:Nat × Nat} (h:asP a=some x) (hv:gv ν a=some v):∃ b,ν.blk x.1=some b/\v=.pointer (some ⟨b,x.2,none⟩):=by
 cases a<;>simp [asP] at h;subst h;simp only [gv,gA] at hv;cases hb:ν.blk x.1 with
 | none=>simp [hb] at hv
 | some b=>simp [hb] at hv;exact ⟨b,rfl,hv.symm⟩
theorem asT_iff {x:List AV} (h:asT a=some x) (hv:gv ν a=some v):∃ l,gvs ν x=some l/\v=.tuple l.toArray:=by
 cases a<;>simp [asT] at h;subst h;simp only [gv] at hv;rename_i cs;cases hc:gvs ν cs with
 | none=>simp [hc] at hv
 | some l=>simp [hc] at hv;exact ⟨l,rfl,hv.symm⟩
theorem YkK {x:List AV} (h:asA a=some x) (hv:gv ν a=some v):∃ l,gvs ν x=some l/\v=.agg l.toArray:=by
 cases a<;>simp [asA] at h;subst h;simp only [gv] at hv;rename_i cs;cases hc:gvs ν cs with
 | none=>simp [hc] at hv
 | some l=>simp [hc] at hv;exact ⟨l,rfl,hv.symm⟩
theorem Ybx {x:Option Nat} (h:asM a=some x) (hv:gv ν a=some v):∃ m,gM ν x=some m/\v=.map m:=by
 cases a<;>simp [asM] at h;subst h;simp only [gv] at hv;rename_i r;cases hc:gM ν r with
 | none=>simp [hc] at hv
 | some l=>simp [hc] at hv;exact ⟨l,rfl,hv.symm⟩
theorem Yfe {x:FuncId × List AV × List AV} (h:asF a=some x) (hv:gv ν a=some v):∃ us vs,gvs ν x.2.1=some us/\gvs ν x.2.2=some vs/\v=.func (.func x.1) us.toArray vs.toArray:=by
 cases a<;>simp [asF] at h;subst h;simp only [gv] at hv;rename_i g x y;cases hx:gvs ν x with
 | none=>simp [hx] at hv
 | some us=>
  cases hy:gvs ν y with
  | none=>simp [hx,hy] at hv
  | some vs=>simp [hx,hy] at hv;exact ⟨us,vs,rfl,rfl,hv.symm⟩
theorem Yaa {x:Sl_} (h:asL a=some x) (hv:gv ν a=some v):∃ A c,gA ν x.a=some A/\gC ν x.lo x.sym=some c/\x.len<=x.lo/\v=.slice A x.len c:=by
 cases a<;>simp [asL] at h;subst h;simp only [gv] at hv;rename_i a n c s;cases ha:gA ν a with
 | none=>simp [ha] at hv
 | some A=>
  cases hc:gC ν c s with
  | none=>simp [ha,hc] at hv
  | some cc=>
   simp only [ha,hc] at hv;split at hv
   ·rename_i hle;injection hv with hv;exact ⟨A,cc,rfl,rfl,hle,hv.symm⟩
   cases hv
theorem Ych {n:Nat} (h:asN a=some n) (hv:gv ν a=some v):∃ k,v=.int k n:=by
 cases a<;>simp [asN] at h;rename_i k m;cases m<;>simp [YjA] at h;subst h;simp only [gv] at hv;injection hv with hv;exact ⟨k,hv.symm⟩
end
theorem gC_le {ν:Nu} {lo:Nat} {s:Option (Nat × Nat)} (h:gC ν lo s=some c):lo<=c:=by
 cases s with
 | none=>simp [gC] at h;omega
 | some q=>
  simp only [gC] at h;cases hc:ν.cap q.1 with
  | none=>simp [hc] at h
  | some x=>
   simp only [hc] at h;split at h
   ·injection h with h;omega
   cases h
def CapOk (tT:TT) (ν:Nu) (n e j:Nat):Prop:=∃ C l Y,ν.cap j=some C/\ν.slk j=some l/\tT e=some Y/\n+l.length=C*Y.size
theorem CapOk.mono {tT:TT} {ν ν':Nu} {n e:Nat} (h:CapOk tT ν n e j) (hle:ν.le ν'):CapOk tT ν' n e j:=by
 obtain ⟨C,l,Y,h1,h2,h3,h4⟩:=h;exact ⟨C,l,Y,hle.cap _ _ h1,hle.slk _ _ h2,h3,h4⟩
structure HR (tT:TT) (ν:Nu) (h:Tr AO) (H Fm:HP):Prop where
 own:∀ id o,h.get id=some o->∃ b x,ν.blk id=some b/\go ν o=some x/\(b,x)∈H
 inj:∀ id id' o o' b,h.get id=some o->h.get id'=some o'->ν.blk id=some b->ν.blk id'=some b->id=id'
 fm:∀ p∈Fm,p∈H/\∀ id o,h.get id=some o->ν.blk id≠some p.1
 cap:∀ id cs e j fr,h.get id=some (.cells cs e (some j) fr)->CapOk tT ν cs.length e j
def Yac (ν:Nu) (n:Nat):Prop:=∀ i,n<=i->ν.blk i=none/\ν.cap i=none/\ν.slk i=none
def RR (ν:Nu) (ar:RD) (r:Operand->Option Value):Prop:=∀ x a,ar x=some a->∃ v,gv ν a=some v/\r x=some v
def ER (ν:Nu) (e:Tr AV) (σ:Env):Prop:=∀ i a,e.get i=some a->∃ v,gv ν a=some v/\lk σ i=some v
theorem RR.all {ν:Nu} {ar:RD} {r:Operand->Option Value} (h:RR ν ar r):∀ {xs:List Operand} {l:List AV},rdos ar xs=some l->∃ vs,gvs ν l=some vs/\rds r xs=some vs
 | [],l,hl=>by
  have:l=[]:=by injection hl with hl;exact hl.symm
  subst this;exact ⟨[],rfl,rfl⟩
 | x::xs,l,hl=>by
  obtain ⟨a,ha,hl⟩:=YB hl;obtain ⟨q,hq,hl⟩:=YB hl;injection hl with hl
  subst hl;obtain ⟨v,h1,h2⟩:=h x a ha;obtain ⟨vs,h3,h4⟩:=RR.all h hq;exact ⟨v::vs,YdB h1 h3,by simp only [rds,h2,h4]⟩
structure TR (X:Ty) (a:TyA):Prop where
 size:X.size=a.size
 bytes:X.bytes=a.bytes
 agg:isAggD X.desc=a.agg
 zero:∃ zs,(∀ ν,gvs ν a.zero=some zs)/\X.zero.cells=zs.toArray
 zagg:a.agg=true->∃ cs,X.zero=.agg cs
 zone:a.agg=false->∃ z,a.zero=[z]/\∀ ν,gv ν z=some X.zero
 nif:a.k≠7->isIfaceD X.desc=false
 d0:a.k=0->X.desc=.bool
 d1:a.k=1->X.desc=.int a.ik
 d2:a.k=2->X.desc=.string
 d3:a.k=3->X.desc=.pointer a.e
 d4:a.k=4->X.desc=.slice a.e
 d5:a.k=5->X.desc=.array a.n a.e
 d6:a.k=6->X.desc=.map a.n a.e
 d7:a.k=7->∃ ms,X.desc=.interface ms
 d8:a.k=8->∃ x y z,X.desc=.func x y z
 d9:a.k=9->∃ fs,X.desc=.struct fs/\fs.toList.map (fun f=>(f.type,f.offset))=a.fs
def TA {P:Program} (tT:TT) (T:Tab P):Prop:=∀ t a,tT t=some a->∃ X,T.inf t=some X/\TR X a
theorem WE {P:Program} {tT:TT} {T:Tab P} (h:TA tT T) {t k:Nat} {c:TyA->Bool} (hk:tyK tT t k c=true):∃ a X,tT t=some a/\T.inf t=some X/\TR X a/\a.k=k/\c a=true:=by
 obtain ⟨a,ha,hk⟩:=Yf hk;obtain ⟨h1,h2⟩:=YE hk;obtain ⟨X,hX,hR⟩:=h t a ha;exact ⟨a,X,ha,hX,hR,Nat.eq_of_beq_eq_true h1,h2⟩
end Go.Ev
