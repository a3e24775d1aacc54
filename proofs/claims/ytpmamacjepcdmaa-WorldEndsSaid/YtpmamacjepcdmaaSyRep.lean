import Derived.Test.YtpmamacjepcdmaaSyDraw
namespace Go.Sy
def nth {α : Type} : List α→Nat→Option α
 | [],_=>none
 | a :: _,0=>some a
 | _ :: l,n + 1=>nth l n
def bj {α : Type} : List α→Nat→α→List α
 | [],_,_=>[]
 | _ :: l,0,b=>b :: l
 | a :: l,n + 1,b=>a :: bj l n b
def dr {α : Type} (f : α→Bool) : List α→Bool
 | []=>true
 | a :: l=>(f a).and (dr f l)
def nK (n : Nat) : List Nat→Bool
 | []=>false
 | m :: l=>if Nat.beq n m then true else nK n l
def dN : List Nat→Bool
 | []=>true
 | a :: l=>(nK a l).not.and (dN l)
def ed {α : Type} (n : Nat) : List (Nat × α)→Option α
 | []=>none
 | (m,a) :: l=>if Nat.beq n m then some a else ed n l
def lookR {α : Type} (n o : Nat) : List (Nat × Nat × α)→Option α
 | []=>none
 | (m,q,a) :: l=>if (Nat.beq n m).and (Nat.beq o q) then some a else lookR n o l
def eR {α : Type} (l : List α) (o n : Nat) : Option (List α) :=
 let m:=(l.drop o).take n
 if Nat.beq m.length n then some m else none
def cq {α : Type} : List α→Nat→List α→List α
 | l,_,[]=>l
 | l,o,c :: m=>cq (bj l o c) (o + 1) m
inductive Pc (α : Type) where
 | fr | go | at (x : α)
instance {α : Type} : Inhabited (Pc α):=⟨.go⟩
def Pc.map {α β : Type} (f : α→β) : Pc α→Pc β
 | .fr=>.fr
 | .go=>.go
 | .at x=>.at (f x)
def Pc.all {α : Type} (f : α→Bool) : Pc α→Bool
 | .at x=>f x
 | _=>true
def Pc.same {α : Type} (f : α→α→Bool) : Pc α→Pc α→Bool
 | .fr,.fr | .go,.go=>true
 | .at a,.at b=>f a b
 | _,_=>false
def putAt {α : Type} (l : List (Pc α)) (r : Nat) (x : α) : List (Pc α):=if Nat.beq r l.length then l ++ [.at x] else bj l r (.at x)
def eY {α : Type} (f : α→α→Bool) : List α→List α→Bool
 | [],[]=>true
 | a :: l,b :: m=>(f a b).and (eY f l m)
 | _,_=>false
def cR {α : Type} (l : List (Pc α)) (r : Nat) : Bool:=(Nat.beq r l.length).or (match nth l r with | some .fr=>true | _=>false)
inductive TK where
 | struct (fs : List (Nat × Nat)) | array (n e : Nat) | slice (e : Nat) | map (k v : Nat) | ptr (e : Nat) | other
 deriving Inhabited
structure TI where
 sz : Nat
 by_ : Nat
 agg : Bool
 zero : List SC
 k : TK
 kd : Option (List Kd)
 eq : Bool
 key : Bool:=false
 deriving Inhabited
abbrev TT:=List (Nat × TI)
def TT.get : TT→Nat→Option TI
 | [],_=>none
 | (u,i) :: l,t=>if Nat.beq u t then some i else TT.get l t
structure Ar where
 e : Nat
 K : SK
 x : X
 deriving Inhabited
structure Mp where
 tk : Nat
 tv : Nat
 kk : List Kd
 agg : Bool
 vk : Kd
 x : X
 deriving Inhabited
structure Hp where
 regs : List (Pc (List SC))
 arrs : List (Pc Ar)
 mps : List (Pc Mp)
 deriving Inhabited
structure St where
 fn : Nat
 tmps : List SR
 stk : List (List SR)
 h : Hp
 nx : Nat
 known : List X
 deriving Inhabited
inductive Tree where
 | ret (outs : List X)
 | ite (b : X) (t e : Tree)
 | need (b : X) (t : Tree)
 | call (f : Nat) (args : List X) (lo : Nat) (t : Tree)
 | loop (id : Nat) (ks : List Kd) (init : List X) (body : Tree)
 | back (id : Nat) (cur : List X)
 | both (a b : Tree)
 | bad (why : String) (n : List Nat)
 | leaf (s : St)
 deriving Inhabited
def jE : Int→Int→Bool
 | .ofNat a,.ofNat b=>Nat.blt a b
 | .ofNat _,.negSucc _=>false
 | .negSucc _,.ofNat _=>true
 | .negSucc a,.negSucc b=>Nat.blt b a
def inI64 (x : Int) : Bool:=(jE x (-9223372036854775808)).not.and (jE x 9223372036854775808)
def X.mem (b : X) : List X→Bool
 | []=>false
 | c :: l=>if X.same b c then true else X.mem b l
def X.ug : X→X→Bool
 | .eq x (.int n),.eq y (.int k)=>(X.same x y).and ((jE n k).or (jE k n))
 | .lt (.int n) x,.eq y (.int k)=>(X.same x y).and (jE n k).not
 | _,_=>false
def X.pA (b : X) : List X→Bool
 | []=>false
 | c :: l=>if X.ug b c then true else X.pA b l
def X.dec (known : List X) : X→Option Bool
 | .bool b=>some b
 | .not x=>match X.dec known x with
  | some b=>some b.not
  | none=>if X.mem (.not x) known then some true else none
 | .and x y=>match X.dec known x,X.dec known y with
  | some false,_=>some false
  | _,some false=>some false
  | some true,some true=>some true
  | _,_=>if X.mem (.and x y) known then some true else if X.mem (.not (.and x y)) known then some false else none
 | .or x y=>match X.dec known x,X.dec known y with
  | some true,_=>some true
  | _,some true=>some true
  | some false,some false=>some false
  | _,_=>if X.mem (.or x y) known then some true else if X.mem (.not (.or x y)) known then some false else none
 | b=>if X.mem b known then some true else if X.mem (.not b) known then some false else if X.pA b known then some false else none
def X.iG : X→List X
 | .and x y=>X.iG x ++ X.iG y
 | .not (.or x y)=>[.not x,.not y]
 | b=>[b]
def mkNot : X→X
 | .bool b=>.bool b.not
 | x=>.not x
def neg : X→X
 | .not x=>x
 | x=>mkNot x
def mkAnd : X→X→X
 | .bool true,y=>y
 | .bool false,_=>.bool false
 | x,y=>.and x y
def isLen : X→Bool
 | .len _ | .slen _=>true
 | .add x y=>(isLen x).and (isLen y)
 | .int (.ofNat _)=>true
 | _=>false
def mkLt : X→X→X
 | .int a,.int b=>.bool (jE a b)
 | a,b=>if X.same a b then .bool false else .lt a b
def mkLe : X→X→X
 | .int a,.int b=>.bool (jE b a).not
 | .int (.ofNat 0),b=>if isLen b then .bool true else .le (.int 0) b
 | a,b=>if X.same a b then .bool true else .le a b
def mkEq : X→X→X
 | .int a,.int b=>.bool (kf a b)
 | a,b=>if X.same a b then .bool true else .eq a b
def uT : X→X→X
 | .bool a,.bool b=>.bool (fg a b)
 | x,y=>if X.same x y then .bool true else .beq x y
def mkSeq : X→X→X
 | .str a,.str b=>.bool (bK jL a b)
 | x,y=>if X.same x y then .bool true else .seq x y
def mkAdd : X→X→X
 | .int a,.int b=>.int (a + b)
 | .int (.ofNat 0),y=>if isLen y then y else .add (.int 0) y
 | x,.int (.ofNat 0)=>if isLen x then x else .add x (.int 0)
 | .add x (.int (.ofNat a)),.int (.ofNat b)=>.add x (.int (.ofNat (a + b)))
 | x,y=>.add x y
def bm : X→X
 | .set x _ _ _=>bm x
 | .nil=>.int 0
 | .row0=>.int 1
 | .cons _ _=>.int 1
 | .app x y=>mkAdd (bm x) (bm y)
 | .rep n r=>(match n with
  | .len x=>.len x
  | .int (.ofNat n)=>.int (.ofNat n)
  | n=>.len (.rep n r))
 | x=>.len x
def cQ (n x : X) : X:=if X.same n (bm x) then x else .take n x
def mG (n x : X) : X:=match n with
 | .int (.ofNat 0)=>x
 | n=>.drop n x
def cz : X→X→Nat→X
 | .set y j p d,i,o=>if Nat.beq o p then (if X.same i j then d else (match i,j with
   | .int (.ofNat a),.int (.ofNat b)=>if Nat.beq a b then .cell (.set y j p d) i o else cz y i o
   | i,j=>.cell (.set y j p d) i o)) else cz y i o
 | .cons d r,i,o=>(match i,o with
  | .int (.ofNat 0),0=>d
  | .int (.ofNat 0),o + 1=>cz r (.int 0) o
  | i,o=>.cell (.cons d r) i o)
 | .app x y,i,o=>(match i,bm x with
  | .int (.ofNat a),.int (.ofNat n)=>if Nat.blt a n then cz x (.int (.ofNat a)) o else cz y (.int (.ofNat (a - n))) o
  | i,_=>.cell (.app x y) i o)
 | .rep _ r,_,o=>cz r (.int 0) o
 | x,i,o=>.cell x i o
def fL : List X→X
 | []=>.row0
 | d :: l=>.cons d (fL l)
def qZ : SK:=⟨8,[.int .i64]⟩
def Kd.CF : Kd→Bool | .os _=>true | _=>false
def Kd.shut : Kd→Kd | .os _=>.sl 8 [.int .i64] | k=>k
def SK.shut (K : SK) : SK:=⟨K.by_,K.kd.map Kd.shut⟩
def gV : Nat→List Kd→List (Nat × Nat)
 | _,[]=>[]
 | o,.os e :: l=>(o,e) :: gV (o + 1) l
 | o,_ :: l=>gV (o + 1) l
def fS (l : List Kd) : Bool:=match gV 0 l with | []=>true | _=>false
def nT (i : X) (o : Nat) (d : X) : X→Option X
 | .set y j p c=>if Nat.beq o p then (if X.same i j then some (.set y i o d) else none) else (match nT i o d y with | some z=>some (.set z j p c) | none=>none)
 | _=>none
def mkSet (x i : X) (o : Nat) (d : X) : X:=match nT i o d x with | some z=>z | none=>.set x i o d
def jw : X→Nat→Option (Nat × X)
 | .cons (.ref s n) _,0=>some (s,n)
 | .cons _ r,j + 1=>jw r j
 | _,_=>none
def oE : X→Nat→X→X
 | .cons _ r,0,d=>.cons d r
 | .cons c r,j + 1,d=>.cons c (oE r j d)
 | x,_,_=>x
def l9 (j : Nat) : X→Option (X × Nat × X)
 | .set y i o d=>if Nat.beq o j then (match d with | .ref s n=>some (i,s,n) | _=>none) else l9 j y
 | .app x y=>(match jw y j with | some (s,n)=>some (bm x,s,n) | none=>none)
 | .cons c r=>(match jw (.cons c r) j with | some (s,n)=>some (.int 0,s,n) | none=>none)
 | _=>none
def lB (j : Nat) (d : X) : X→X
 | .set y i o c=>if Nat.beq o j then .set y i o d else .set (lB j d y) i o c
 | .app x y=>.app x (oE y j d)
 | x=>oE x j d
def qY (x : X) : Kd→SC
 | .os _=>.fz qZ x
 | .int k=>.int k x
 | .bool=>.bool x
 | .str=>.str x
 | .sl b kd=>.fz ⟨b,kd⟩ x
def gN : Kd→SC→Option X
 | .int k,.int j x=>if IntKind.same k j then some x else none
 | .bool,.bool x=>some x
 | .str,.str x=>some x
 | .sl b kd,.fz K x=>if SK.same ⟨b,kd⟩ K then some x else none
 | .sl _ _,.nilsl=>some .nil
 | .sl _ _,.z0=>some .nil
 | .os _,.fz K x=>if SK.same qZ K then some x else none
 | .os _,.nilsl=>some (.own .nil)
 | .os _,.z0=>some (.own .nil)
 | .os _,.sl a n=>some (.ref a n)
 | _,_=>none
def cf : List Kd→List SC→Option (List X)
 | [],[]=>some []
 | k :: l,c :: m=>match gN k c,cf l m with
  | some x,some xs=>some (x :: xs)
  | _,_=>none
 | _,_=>none
def wP : List Kd→List SC→Option Nat
 | .os _ :: ks,_ :: l=>wP ks l
 | _,.sl a _ :: _=>some a
 | _ :: ks,_ :: l=>wP ks l
 | [],_ :: l=>wP [] l
 | _,[]=>none
def gE (x i : X) : Nat→List Kd→List SC
 | _,[]=>[]
 | o,k :: ks=>qY (cz x i o) k :: gE x i (o + 1) ks
def setCells (x i : X) : Nat→List X→X
 | _,[]=>x
 | o,d :: l=>setCells (.set x i o d) i (o + 1) l
def SC.full : SC→Bool
 | .any=>false
 | _=>true
def SV.full : SV→Bool
 | .one c=>c.full
 | .agg l=>dr SC.full l
def SR.full : SR→Bool
 | .v x=>x.full
 | .tup l=>dr SV.full l
def SV.cells : SV→List SC
 | .one c=>[c]
 | .agg l=>l
def oL : Value→Option SC
 | .int k n=>some (.int k (.int n))
 | .bool b=>some (.bool (.bool b))
 | .string s=>some (.str (.str s.data.toList))
 | .pointer none=>some .nilp
 | .slice none 0 0=>some .nilsl
 | .map none=>some .nilmap
 | _=>none
def gC : List Value→Option (List SC)
 | []=>some []
 | v :: l=>match oL v,gC l with
  | some c,some m=>some (c :: m)
  | _,_=>none
def ofConst : Value→Option SR
 | .agg cs=>(gC cs.toList).map fun l=>.v (.agg l)
 | v=>(oL v).map fun c=>.v (.one c)
def ev (T : List SR) : Operand→Option SR
 | .tmp t=>nth T t
 | .const v=>ofConst v
 | .global _=>none
 | .func f=>some (.v (.one (.fn f [])))
def evs (T : List SR) : List Operand→Option (List SR)
 | []=>some []
 | o :: l=>match ev T o,evs T l with
  | some c,some m=>some (c :: m)
  | _,_=>none
inductive Out where
 | val (eI : List X) (r : SR) (h : Hp) (quiet : Bool:=true)
 | skip (eI : List X) (h : Hp)
 | ask (b : X)
 | nilq (n : X) (neg : Bool)
 | frz (a : Nat)
 | opn (a : Nat) (i : X) (o : Nat)
 | call (f : Nat) (args : List SR)
 | bad (why : String)
def dg (i n : X) : List X:=[mkLe (.int 0) i,mkLt i n]
def iU (f : Int→Int→Int) : X→X→Option X
 | .int a,.int b=>if inI64 (f a b) then some (.int (f a b)) else none
 | _,_=>none
def arith (op : BinOp) (k : IntKind) (x y : X) : Option (List X × X) :=
 match k with
 | .i64=>(match op with
  | .add=>(match iU (· + ·) x y with | some e=>some ([],e) | none=>some ([.fit (.add x y)],.add x y))
  | .sub=>(match iU (· - ·) x y with | some e=>some ([],e) | none=>some ([.fit (.sub x y)],.sub x y))
  | .mul=>(match iU (· * ·) x y with | some e=>some ([],e) | none=>some ([.fit (.mul x y)],.mul x y))
  | .rem=>(match iU Int.tmod x y with | some e=>some ([mkNot (mkEq y (.int 0))],e) | none=>some ([mkNot (mkEq y (.int 0))],.tmod x y))
  | _=>none)
 | _=>none
def gJ : List SC→List SC→Option X
 | [],[]=>some (.bool true)
 | .int _ a :: l,.int _ b :: m=>(gJ l m).map fun r=>mkAnd (mkEq a b) r
 | .bool a :: l,.bool b :: m=>(gJ l m).map fun r=>mkAnd (uT a b) r
 | _,_=>none
def AG : List Kd→List SC→Bool
 | [],[]=>true
 | .int k :: l,.int j _ :: m=>(IntKind.same k j).and (AG l m)
 | .bool :: l,.bool _ :: m=>AG l m
 | _,_=>false
def lA (op : BinOp) (b : X) : Option X:=match op with
 | .eql=>some b
 | .neq=>some (mkNot b)
 | _=>none
def compare (T : TT) (op : BinOp) (t : Nat) (x y : SV) : Option X :=
 match x,y with
 | .one (.int k a),.one (.int j b) =>
  if IntKind.same k j then match op with
   | .eql=>some (mkEq a b)
   | .neq=>some (mkNot (mkEq a b))
   | .lss=>some (mkLt a b)
   | .leq=>some (mkLe a b)
   | .gtr=>some (mkLt b a)
   | .geq=>some (mkLe b a)
   | _=>none
  else none
 | .one (.bool a),.one (.bool b)=>match T.get t with
  | some { eq:=true,agg:=false,kd:=some kd,.. }=>if AG kd [.bool a] then lA op (uT a b) else none
  | _=>none
 | .one (.str a),.one (.str b)=>lA op (mkSeq a b)
 | .one .nilp,.one .nilp=>(match T.get t with | some { k:=.ptr _,.. }=>lA op (.bool true) | _=>none)
 | .one (.loc _ _),.one .nilp=>(match T.get t with | some { k:=.ptr _,.. }=>lA op (.bool false) | _=>none)
 | .agg l,.agg m=>match T.get t with
  | some { eq:=true,agg:=true,kd:=some kd,.. }=>if (AG kd l).and (AG kd m) then (match gJ l m with
    | some b=>lA op b
    | none=>none)
   else none
  | _=>none
 | _,_=>none
def iW (T : TT) (k : TK) (cells : List SC) : List (Nat × SR)→Option (List SC)
 | []=>some cells
 | (i,.v x) :: l =>
  let place : Option (Nat × Nat):=match k with
   | .struct fs=>(match nth fs i with | some (off,t)=>(T.get t).map fun j=>(off,j.sz) | none=>none)
   | .array n e=>if Nat.blt i n then (T.get e).map fun j=>(i * j.sz,j.sz) else none
   | _=>none
  match place with
  | some (off,z)=>if (Nat.beq x.cells.length z).and (Nat.ble (off + z) cells.length) then iW T k (cq cells off x.cells) l else none
  | none=>none
 | _ :: _=>none
def mH : X→Option Nat
 | .int (.ofNat n)=>some n
 | _=>none
def dj (agg : Bool) (cs : List SC) : Option SR:=if agg then some (.v (.agg cs)) else match cs with
 | [c]=>some (.v (.one c))
 | _=>none
def iK (x i : X) : Nat→List Kd→List X
 | _,[]=>[]
 | o,.os _ :: l=>.isL (cz x i o) :: iK x i (o + 1) l
 | o,_ :: l=>iK x i (o + 1) l
def isRef : X→Option (Nat × X)
 | .ref s n=>some (s,n)
 | _=>none
def jD (agg : Bool) (sz : Nat) (l : List Kd) : Bool:=agg.not.and ((Nat.beq sz 1).and (match l with | [.os _]=>true | _=>false))
def xy : X→Bool
 | .shut _=>true
 | .take _ x=>xy x
 | _=>false
def loadAt (T : TT) (h : Hp) (t : Nat) : SR→Out
 | .v (.one (.loc r o))=>match T.get t,nth h.regs r with
  | some i,some (.at cs)=>match eR cs o i.sz with
   | some m=>(match dj i.agg m with | some r=>.val [] r h | none=>.bad "load")
   | none=>.bad "load cells"
  | _,_=>.bad "load region"
 | .v (.one (.ep a z i o))=>match T.get t,nth h.arrs a with
  | some ti,some (.at A) =>
   if (Nat.beq z A.K.kd.length).and (Nat.ble (o + ti.sz) z) then
    (if (jD ti.agg ti.sz ((A.K.kd.drop o).take ti.sz)).and (xy (cz A.x i o)).not then (match isRef (cz A.x i o) with
     | some (s,n)=>.val (dg i (bm A.x) ++ [mkLe (.int 0) (mkAdd (.int 0) n)]) (.v (.one (.sl s (mkAdd (.int 0) n)))) h
     | none=>.opn a i o) else
    match dj ti.agg (gE A.x i o ((A.K.kd.drop o).take ti.sz)) with | some r=>.val (dg i (bm A.x) ++ iK A.x i o ((A.K.kd.drop o).take ti.sz)) r h | none=>.bad "load one")
   else .bad "load size"
  | _,_=>.bad "load array"
 | .v (.one (.fp K x i o))=>match T.get t with
  | some ti =>
   if (Nat.ble (o + ti.sz) K.kd.length).and (fS ((K.kd.drop o).take ti.sz)) then
    (match dj ti.agg (gE x i o ((K.kd.drop o).take ti.sz)) with | some r=>.val [] r h | none=>.bad "load one")
   else .bad "load size"
  | none=>.bad "load type"
 | _=>.bad "load address"
def storeAt (T : TT) (h : Hp) (t : Nat) (a x : SR) : Out :=
 match x with
 | .tup _=>.bad "store"
 | .v x=>match T.get t with
  | none=>.bad "store type"
  | some ti =>
   if (Nat.beq x.cells.length ti.sz).and (dr (fun c=>match c with | .any | .undef=>false | _=>true) x.cells) then match a with
    | .v (.one (.loc r o))=>(match nth h.regs r with
     | some (.at cs)=>if Nat.ble (o + ti.sz) cs.length then .skip [] { h with regs:=bj h.regs r (.at (cq cs o x.cells))} else .bad "store cells"
     | _=>.bad "store region")
    | .v (.one (.ep b z i o))=>(match nth h.arrs b with
     | some (.at A) =>
      if (Nat.beq z A.K.kd.length).and (Nat.ble (o + ti.sz) z) then
       (match wP ((A.K.kd.drop o).take ti.sz) x.cells with
        | some c=>.frz c
        | none=>(match cf ((A.K.kd.drop o).take ti.sz) x.cells with
         | some ds=>.skip (dg i (bm A.x)) { h with arrs:=bj h.arrs b (.at { A with x:=(if jD ti.agg ti.sz ((A.K.kd.drop o).take ti.sz) then mkSet A.x i o (ds.headD .nil) else setCells A.x i o ds)})}
         | none=>.bad "store data"))
      else .bad "store size"
     | _=>.bad "store array")
    | _=>.bad "store address"
   else .bad "store size of the value"
def iB : List SR→Option (List (Nat × Nat))
 | []=>some []
 | .v (.one (.loc r o)) :: l=>(iB l).map fun m=>(r,o) :: m
 | _ :: _=>none
def isSlice (T : TT) (t : Nat) : Option Nat:=match T.get t with
 | some { k:=.slice e,.. }=>some e
 | _=>none
def uR : X→X→X
 | .int a,.int b=>.int (if jE b a then b else a)
 | x,y=>.min x y
def uS : X→X→X
 | .int a,.int b=>.int (if jE a b then b else a)
 | x,y=>.max x y
def xq (kd : List Kd) (x : X) : Bool:=match gV 0 kd with
 | [(j,_)]=>(match jw x j with | some _=>true | none=>false)
 | _=>false
def kZ (h : Hp) (K : SK) : SC→Option (List X × X)
 | .fz L x=>if SK.same K.shut L then some ([],x) else none
 | .nilsl | .z0=>some ([],.nil)
 | .sl a n=>match nth h.arrs a with
  | some (.at A)=>if (SK.same K A.K).and ((fS K.kd).or (xq K.kd A.x)) then some ([mkLe n (bm A.x)],cQ n A.x) else none
  | _=>none
 | _=>none
def gi (ti : TI) : Option (List X):=match ti.kd with
 | some kd=>cf kd ti.zero
 | none=>none
def tK (K : SK) : Nat:=B47 / K.by_
def oU : X→X→X
 | m,.int (.ofNat 0)=>m
 | m,lo=>if X.same m lo then .int 0 else .sub m lo
def dW (kd : List Kd) (arrs : List (Pc Ar)) : SC→List (Pc Ar)
 | .sl b _=>if fS kd then arrs else bj arrs b .go
 | _=>arrs
def w4 (a : Nat) (n : X) (K : SK) (e : Nat) (A : Ar) : SC→Option (List X × SC × Ar)
 | .sub b z i m=>if ((Nat.beq a b).and ((Nat.beq z A.K.kd.length).and (fS A.K.kd))).and ((SK.same A.K K).and (Nat.beq A.e e)) then
   some ([mkLe (.add n m) (bm A.x),mkLe (.add i m) (bm A.x),mkLe (.int 0) n],.sl a (.add n m),{ A with x:=.app (.take n A.x) (.app (.take m (.drop i A.x)) (.drop (.add n m) A.x))})
  else none
 | _=>none
def notAr (a : Nat) : SC→Bool
 | .sl b _=>(Nat.beq a b).not
 | _=>true
def Dx (T : TT) (h : Hp) (sa : Nat) (ats : List Nat) (b : Builtin) (args : List SR) : Out :=
 match b,args with
 | .len,[.v (.one c)]=>(match ats with
  | [t]=>(match isSlice T t with
   | some _=>(match c with
    | .sl _ n=>.val [] (.v (.one (.int .i64 n))) h
    | .fz _ x=>.val [] (.v (.one (.int .i64 (bm x)))) h
    | .nilsl | .z0=>.val [] (.v (.one (.int .i64 (.int 0)))) h
    | _=>.bad "len")
   | none=>.bad "len type")
  | _=>.bad "len")
 | .min,[.v (.one (.int .i64 x)),.v (.one (.int .i64 y))]=>.val [] (.v (.one (.int .i64 (uR x y)))) h
 | .max,[.v (.one (.int .i64 x)),.v (.one (.int .i64 y))]=>.val [] (.v (.one (.int .i64 (uS x y)))) h
 | .append,[.v (.one x),.v (.one y)]=>(match ats with
  | [t,u]=>if Nat.beq t u then (match isSlice T t with
   | some e=>(match T.get e with
    | some { by_:=by_,kd:=some kd,sz:=sz,.. } =>
     let K : SK:=⟨by_,kd⟩
     if ((Nat.beq kd.length sz).and (Nat.blt 0 sz)).and ((Nat.blt 0 by_).and (cR h.arrs sa)) then (match kZ h K y with
      | some (ns,dy)=>(match x with
       | .nilsl | .z0=>.val (ns ++ [mkLe (bm dy) (.int (tK K))]) (.v (.one (.sl sa (bm dy)))) { h with arrs:=putAt (dW kd h.arrs y) sa { e:=e,K:=K,x:=dy}} (fS kd)
       | .sl a n=>(match nth h.arrs a with
        | some (.at A) =>
         if ((SK.same A.K K).and (Nat.beq A.e e)).and (notAr a y) then
          let d:=X.app (cQ n A.x) dy
          .val (ns ++ [mkLe n (bm A.x),mkLe (mkAdd n (bm dy)) (.int (tK K))]) (.v (.one (.sl sa (mkAdd n (bm dy))))) { h with arrs:=putAt (dW kd (bj h.arrs a .go) y) sa { e:=e,K:=K,x:=d}} ((fS kd).and (X.same n (bm A.x)))
         else .bad "append kinds"
        | _=>.bad "append array")
       | _=>.bad "append onto")
      | none=>(match x with
       | .sl a n=>(match nth h.arrs a with
        | some (.at A)=>(match w4 a n K e A y with
         | some (ns,r,A')=>.val ns (.v (.one r)) { h with arrs:=bj h.arrs a (.at A')} false
         | none=>.bad "append what")
        | _=>.bad "append array")
       | _=>.bad "append what"))
     else .bad "append size"
    | _=>.bad "append types")
   | none=>.bad "append type") else .bad "append types"
  | _=>.bad "append args")
 | .clear,[.v (.one (.sub a z i m))]=>(match ats with
  | [t]=>(match isSlice T t with
   | some e=>(match T.get e,nth h.arrs a with
    | some ei,some (.at A)=>(match gi ei with
     | some zd=>if ((Nat.beq A.e e).and (Nat.beq z ei.sz)).and ((Nat.beq A.K.kd.length ei.sz).and ((match ei.kd with | some kd=>(Kd.jt kd A.K.kd).and (fS kd) | none=>false).and (Nat.blt 0 ei.sz))) then
       .val [mkLe (.add i m) (bm A.x)] (.tup []) { h with arrs:=bj h.arrs a (.at { A with x:=.app (.take i A.x) (.app (.rep m (fL zd)) (.drop (.add i m) A.x))})} false
      else .bad "clear kinds"
     | none=>.bad "clear zero")
    | _,_=>.bad "clear array")
   | none=>.bad "clear type")
  | _=>.bad "clear args")
 | _,_=>.bad "builtin"
def wO (h : Hp) : SC→Option X
 | .fz _ x=>some (bm x)
 | .sl a n=>(match nth h.arrs a with | some (.at _)=>some n | _=>none)
 | .z0=>some (.int 0)
 | _=>none
def ja (T : TT) (h : Hp) (op : BinOp) (t : Nat) (x y : SR) : Out :=
 match x,y with
 | .v (.one c),.v (.one .nilsl)=>(match isSlice T t,wO h c,op with
  | some _,some n,.eql=>.nilq n false
  | some _,some n,.neq=>.nilq n true
  | _,_,_=>.bad "nil")
 | .v x,.v y=>match compare T op t x y with
  | some b=>.val [] (.v (.one (.bool b))) h
  | none=>match x,y with
   | .one (.int k a),.one (.int j b)=>if IntKind.same k j then (match arith op k a b with
    | some (ns,r)=>.val ns (.v (.one (.int k r))) h
    | none=>.bad "arith") else .bad "kinds"
   | _,_=>.bad "binop"
 | _,_=>.bad "binop"
def lj (T : TT) (k : TK) : Bool:=match k with
 | .struct fs=>dr (fun (x : Nat × Nat)=>match T.get x.2 with | some _=>true | none=>false) fs
 | .array _ e=>(match T.get e with | some _=>true | none=>false)
 | _=>false
def rowsOf (kd : List Kd) (z : Nat) : Nat→List SC→Option X
 | 0,_=>some .nil
 | n + 1,cs=>match cf kd (cs.take z),rowsOf kd z n (cs.drop z) with
  | some r,some x=>some (match x with | .nil=>fL r | x=>.app (fL r) x)
  | _,_=>none
def lz : Kd→Bool
 | .int _=>true
 | .bool=>true
 | _=>false
def pa (ki : TI) (kk : List Kd) : Bool:=(dr lz kk).and ki.key
def xm (ki : TI) (kk : List Kd) (vi : TI) (vk : Kd) : Bool:=(pa ki kk).and ((lz vk).and vi.agg.not)
def iQ (ki : TI) : SV→Bool
 | .one _=>ki.agg.not
 | .agg _=>ki.agg
def ql (M : Mp) (ki vi : TI) (tk tv : Nat) : Bool:=((Nat.beq M.tk tk).and (Nat.beq M.tv tv)).and (match ki.kd,vi.kd with
 | some kk,some [vk]=>(((Kd.jt kk M.kk).and (Kd.same vk M.vk)).and (fg M.agg ki.agg)).and (xm ki kk vi vk)
 | _,_=>false)
def aop (T : TT) (tm : List SR) (h : Hp) (sr sa : Nat) (op : Op) : Out :=
 match op with
 | .move x | .assign x=>(match ev tm x with | some r=>.val [] r h | none=>.bad "operand")
 | .pick c a b=>(match ev tm c,ev tm a,ev tm b with
  | some (.v (.one (.bool (.bool c)))),some x,some y=>.val [] (if c then x else y) h
  | some (.v (.one (.bool c))),some _,some _=>.ask c
  | _,_,_=>.bad "pick")
 | .alloc t=>(match T.get t with
  | some i=>if cR h.regs sr then .val [] (.v (.one (.loc sr 0))) { h with regs:=putAt h.regs sr i.zero} else .bad "place"
  | none=>.bad "alloc")
 | .box t x=>(match T.get t,ev tm x with
  | some _,some (.v x)=>if x.full.and (cR h.regs sr) then .val [] (.v (.one (.loc sr 0))) { h with regs:=putAt h.regs sr x.cells} else .bad "box not full"
  | _,_=>.bad "box")
 | .load t a=>(match ev tm a with | some r=>loadAt T h t r | none=>.bad "operand")
 | .store t a x=>(match ev tm a,ev tm x with | some r,some v=>storeAt T h t r v | _,_=>.bad "operand")
 | .nilCheck x=>(match ev tm x with
  | some (.v (.one (.loc r o)))=>.val [] (.v (.one (.loc r o))) h
  | some (.v (.one (.ep a z i o)))=>(match nth h.arrs a with | some (.at A)=>.val (dg i (bm A.x)) (.v (.one (.ep a z i o))) h | _=>.bad "nilCheck")
  | some (.v (.one (.fp K x i o)))=>.val [] (.v (.one (.fp K x i o))) h
  | some (.v (.one (.fn f c)))=>.val [] (.v (.one (.fn f c))) h
  | _=>.bad "nilCheck")
 | .fieldAddr t x f=>(match T.get t,ev tm x with
  | some { k:=.struct fs,.. },some r=>(match nth fs f with
   | some (off,u)=>(match T.get u with
    | some ui=>if Nat.blt 0 ui.sz then (match r with
     | .v (.one (.loc q o))=>.val [] (.v (.one (.loc q (o + off)))) h
     | .v (.one (.ep a z i o))=>(match nth h.arrs a with | some (.at A)=>.val (dg i (bm A.x)) (.v (.one (.ep a z i (o + off)))) h | _=>.bad "fieldAddr array")
     | .v (.one (.fp K x i o))=>if Nat.ble (o + off) K.kd.length then .val [] (.v (.one (.fp K x i (o + off)))) h else .bad "fieldAddr offset"
     | _=>.bad "fieldAddr address") else .bad "fieldAddr size"
    | none=>.bad "fieldAddr type")
   | none=>.bad "fieldAddr field")
  | _,_=>.bad "fieldAddr")
 | .indexAddr t x i=>(match T.get t,ev tm x,ev tm i with
  | some { k:=.slice e,.. },some (.v (.one x)),some (.v (.one (.int .i64 i)))=>(match T.get e with
   | some ei=>(match x with
    | .sl a n=>(match nth h.arrs a with
     | some (.at A)=>if (Nat.beq A.K.kd.length ei.sz).and (Nat.blt 0 ei.sz) then .val (dg i n ++ [mkLe n (bm A.x)]) (.v (.one (.ep a ei.sz i 0))) h else .bad "indexAddr size"
     | _=>.bad "indexAddr array")
    | .fz K x=>if (Nat.beq K.kd.length ei.sz).and (Nat.blt 0 ei.sz) then .val (dg i (bm x)) (.v (.one (.fp K x i 0))) h else .bad "indexAddr size"
    | _=>.bad "indexAddr slice")
   | none=>.bad "indexAddr type")
  | some { k:=.array n e,.. },some (.v (.one (.loc r o))),some (.v (.one (.int .i64 i)))=>(match T.get e,mH i with
   | some ei,some j=>if Nat.blt j n then .val [] (.v (.one (.loc r (o + j * ei.sz)))) h else .bad "indexAddr literal"
   | _,_=>.bad "indexAddr not literal")
  | _,_,_=>.bad "indexAddr")
 | .index t x i=>(match T.get t,ev tm x,ev tm i with
  | some { k:=.array n e,.. },some (.v (.agg l)),some (.v (.one (.int .i64 i)))=>(match T.get e,mH i with
   | some ei,some j=>if (Nat.blt j n).and (Nat.beq l.length (n * ei.sz)) then (match eR l (j * ei.sz) ei.sz with
    | some m=>(match dj ei.agg m with | some r=>.val [] r h | none=>.bad "index")
    | none=>.bad "index cells") else .bad "index literal"
   | _,_=>.bad "index not literal")
  | _,_,_=>.bad "index")
 | .field t x f=>(match T.get t,ev tm x with
  | some { k:=.struct fs,.. },some (.v (.agg l))=>(match nth fs f with
   | some (off,u)=>(match T.get u with
    | some ui=>(match eR l off ui.sz with
     | some m=>(match dj ui.agg m with | some r=>.val [] r h | none=>.bad "field")
     | none=>.bad "field cells")
    | none=>.bad "field type")
   | none=>.bad "field")
  | _,_=>.bad "field")
 | .extract x i=>(match ev tm x with
  | some (.tup l)=>(match nth l i with | some v=>.val [] (.v v) h | none=>.bad "extract")
  | _=>.bad "extract")
 | .binOp op t x y _=>(match ev tm x,ev tm y with | some x,some y=>ja T h op t x y | _,_=>.bad "operand")
 | .unOp .not _ x=>(match ev tm x with
  | some (.v (.one (.bool b)))=>.val [] (.v (.one (.bool (mkNot b)))) h
  | _=>.bad "not")
 | .unOp .neg _ x=>(match ev tm x with
  | some (.v (.one (.int k a)))=>(match arith .sub k (.int 0) a with
   | some (ns,r)=>.val ns (.v (.one (.int k r))) h
   | none=>.bad "neg")
  | _=>.bad "neg")
 | .build t parts=>(match T.get t,evs tm (parts.toList.map (·.2)) with
  | some i,some vs=>if (lj T i.k).not.or (dr SR.full vs).not then .bad "build fields" else (match iW T i.k i.zero ((parts.toList.map (·.1)).zip vs) with
   | some cs=>if i.agg then .val [] (.v (.agg cs)) h else .bad "build"
   | none=>.bad "build parts")
  | _,_=>.bad "build type")
 | .buildSlice t n parts=>(match T.get t,evs tm (parts.toList.map (·.2)) with
  | some { k:=.slice e,.. },some vs=>(match T.get e with
   | some ei=>(match iW T (.array n e) (List.replicate (n * ei.sz) .any) ((parts.toList.map (·.1)).zip vs),ei.kd with
    | some cs,some kd=>if (((Nat.blt 0 ei.sz).and (Nat.blt 0 ei.by_)).and ((Nat.ble (n * ei.sz) 4096).and (Nat.beq kd.length ei.sz))).and ((dr SR.full vs).and ((Nat.ble (n * ei.by_) B47).and (cR h.arrs sa))) then (match wP (List.replicate n kd).flatten cs with
      | some c=>.frz c
      | none=>(match rowsOf kd ei.sz n cs with
       | some x=>.val [] (.v (.one (.sl sa (.int n)))) { h with arrs:=putAt h.arrs sa { e:=e,K:=⟨ei.by_,kd⟩,x:=x}}
       | none=>.bad "buildSlice data")) else .bad "buildSlice size"
    | _,_=>.bad "buildSlice parts")
   | none=>.bad "buildSlice type")
  | _,_=>.bad "buildSlice")
 | .makeFunc (.func f) first caps=>(match first.toList,evs tm caps.toList with
  | [],some cs=>(match iB cs with | some l=>.val [] (.v (.one (.fn f l))) h | none=>.bad "makeFunc captured")
  | _,_=>.bad "makeFunc")
 | .makeSlice t n c=>(match T.get t,ev tm n,ev tm c with
  | some { k:=.slice e,.. },some (.v (.one (.int .i64 n))),some (.v (.one (.int .i64 c)))=>(match T.get e with
   | some ei=>(match ei.kd,gi ei with
    | some kd,some z=>if ((X.same n c).and (Nat.blt 0 ei.sz)).and ((Nat.beq kd.length ei.sz).and ((Nat.blt 0 ei.by_).and (cR h.arrs sa))) then
      .val [mkLe (.int 0) n,mkLe n (.int (B47 / ei.by_))] (.v (.one (.sl sa n))) { h with arrs:=putAt h.arrs sa { e:=e,K:=⟨ei.by_,kd⟩,x:=.rep n (fL z)}}
     else .bad "makeSlice"
    | _,_=>.bad "makeSlice kinds")
   | none=>.bad "makeSlice type")
  | _,_,_=>.bad "makeSlice")
 | .slice t x lo hi mx=>(match T.get t,ev tm x,(match lo with | none=>some (SR.v (.one (.int .i64 (.int 0)))) | some l=>ev tm l),(match hi with | none=>some none | some l=>(ev tm l).map some),(match mx with | none=>some none | some l=>(ev tm l).map some) with
  | some { k:=.slice e,.. },some (.v (.one x)),some (.v (.one (.int .i64 lo))),some hi,some mx=>(match T.get e,mx,hi with
   | some _,some (.v (.one (.int .i64 (.int (.ofNat 0))))),some (.v (.one (.int .i64 (.int (.ofNat 0)))))=>(match lo,x with
    | .int (.ofNat 0),.fz _ _ | .int (.ofNat 0),.sl _ _ | .int (.ofNat 0),.nilsl | .int (.ofNat 0),.z0=>.val [] (.v (.one .z0)) h
    | _,_=>.bad "slice three")
   | some _,some (.v (.one (.int .i64 c))),some (.v (.one (.int .i64 m)))=>(match x with
    | .sl a _=>(match nth h.arrs a with
     | some (.at A)=>.val [mkLe (.int 0) lo,mkLe lo m,mkLe m c,mkLe c (bm A.x)] (.v (.one .any)) h
     | _=>.bad "slice three array")
    | _=>.bad "slice three of what")
   | some ei,none,hi=>(match x with
    | .sl a n=>(match lo,hi with
     | .int (.ofNat 0),some (.v (.one (.int .i64 m)))=>.val [mkLe (.int 0) m,mkLe m n] (.v (.one (.sl a m))) h
     | .int (.ofNat 0),none=>.val [] (.v (.one (.sl a n))) h
     | lo,hi=>(match nth h.arrs a with
      | some (.at A)=>(match hi with
       | some (.v (.one (.int .i64 m)))=>.val [mkLe (.int 0) lo,mkLe lo m,mkLe m (bm A.x)] (.v (.one (.sub a ei.sz lo (oU m lo)))) h
       | none=>.val [mkLe (.int 0) lo,mkLe lo n,mkLe n (bm A.x)] (.v (.one (.sub a ei.sz lo (oU n lo)))) h
       | _=>.bad "slice high")
      | _=>.bad "slice array"))
    | .fz K x=>if (Nat.beq K.kd.length ei.sz).not then .bad "slice size" else (match hi with
     | some (.v (.one (.int .i64 m)))=>.val [mkLe (.int 0) lo,mkLe lo m,mkLe m (bm x)] (.v (.one (.fz K (mG lo (cQ m x))))) h
     | none=>.val [mkLe (.int 0) lo,mkLe lo (bm x)] (.v (.one (.fz K (mG lo x)))) h
     | _=>.bad "slice high")
    | _=>.bad "slice of what")
   | _,_,_=>.bad "slice bounds")
  | _,_,_,_,_=>.bad "slice")
 | .call c=>(match c.callee,evs tm c.args.toList with
  | .value f,some args=>(match ev tm f with
   | some (.v (.one (.fn g caps)))=>.call g (args ++ caps.map fun x=>SR.v (.one (.loc x.1 x.2)))
   | _=>.bad "call")
  | .builtin b,some args=>Dx T h sa c.argTypes.toList b args
  | _,_=>.bad "call operands")
 | .makeMap t none=>(match T.get t with
  | some { k:=.map tk tv,.. }=>(match T.get tk,T.get tv with
   | some ki,some vi=>(match ki.kd,vi.kd with
    | some kk,some [vk]=>if (xm ki kk vi vk) then .val [] (.v (.one (.mp h.mps.length))) { h with mps:=h.mps ++ [.at { tk:=tk,tv:=tv,kk:=kk,agg:=ki.agg,vk:=vk,x:=.nil}]} else .bad "makeMap"
    | _,_=>.bad "makeMap kinds")
   | _,_=>.bad "makeMap types")
  | _=>.bad "makeMap type")
 | .lookup t m x false=>(match T.get t,ev tm m,ev tm x with
  | some { k:=.map tk tv,.. },some (.v (.one (.mp a))),some (.v kx)=>(match nth h.mps a,T.get tk,T.get tv with
   | some (.at M),some ki,some vi=>if (ql M ki vi tk tv).and (iQ ki kx) then (match cf M.kk kx.cells,gi vi with
    | some ks,some [z]=>.val [] (.v (.one (qY (.look M.x (fL ks) z M.kk.length M.kk.length) M.vk))) h
    | _,_=>.bad "lookup data") else .bad "lookup types"
   | _,_,_=>.bad "lookup map")
  | _,_,_=>.bad "lookup")
 | .mapUpdate t m x v | .insert t m x v=>(match T.get t,ev tm m,ev tm x,ev tm v with
  | some { k:=.map tk tv,.. },some (.v (.one (.mp a))),some (.v kx),some (.v (.one c))=>(match nth h.mps a,T.get tk,T.get tv with
   | some (.at M),some ki,some vi=>if (ql M ki vi tk tv).and (iQ ki kx) then (match cf M.kk kx.cells,gN M.vk c with
    | some ks,some d=>.skip [] { h with mps:=bj h.mps a (.at { M with x:=.app (fL (ks ++ [d])) M.x})}
    | _,_=>.bad "mapUpdate data") else .bad "mapUpdate types"
   | _,_,_=>.bad "mapUpdate map")
  | _,_,_,_=>.bad "mapUpdate")
 | _=>.bad "operation"
def wR (kd : List Kd) (x : X) : X:=match gV 0 kd with
 | [(j,_)]=>.shuts x j
 | _=>x
def mi (A : Ar) : List X:=match gV 0 A.K.kd with
 | [(j,_)]=>[.clean A.x j]
 | _=>[]
def osOk (kd : List Kd) : Bool:=match gV 0 kd with
 | []=>true
 | [_]=>true
 | _=>false
def iR (kn : List X) (A : Ar) : Bool:=match gV 0 A.K.kd with
 | []=>true
 | [(j,_)]=>(match X.dec kn (.clean A.x j) with | some true=>true | _=>false)
 | _=>false
def xu (kn : List X) (n x : X) : Bool:=(match x with | .rep m _=>X.same n m | _=>false).or (match X.dec kn (mkLe n (bm x)) with | some true=>true | _=>false)
def pw (kn : List X) (a : Nat) (A : Ar) : SC→SC
 | .sl b n=>if Nat.beq a b then (if xu kn n A.x then .fz A.K.shut (wR A.K.kd (cQ n A.x)) else .any) else .sl b n
 | .ep b z i o=>if Nat.beq a b then .any else .ep b z i o
 | c=>c
def frzV (kn : List X) (a : Nat) (A : Ar) : SV→SV
 | .one c=>.one (pw kn a A c)
 | .agg l=>.agg (l.map (pw kn a A))
def xJ (kn : List X) (a : Nat) (A : Ar) : SR→SR
 | .v x=>.v (frzV kn a A x)
 | .tup l=>.tup (l.map (frzV kn a A))
def pv (a : Nat) (s : St) : Option St:=match nth s.h.arrs a with
 | some (.at A)=>if iR s.known A then some { s with
   tmps:=s.tmps.map (xJ s.known a A)
   stk:=s.stk.map fun l=>l.map (xJ s.known a A)
   h:={ s.h with regs:=s.h.regs.map (Pc.map fun l=>l.map (pw s.known a A)),arrs:=bj s.h.arrs a .go}} else none
 | _=>none
inductive PK where
 | int (k : IntKind) | bool | str | fz (K : SK) | own (e : Nat) (K : SK)
 deriving Inhabited
inductive AK where
 | one (k : PK) | agg (l : List PK) | ptr (l : List PK) | fn (f : Nat)
 deriving Inhabited
inductive RK where
 | one (k : PK) | agg (l : List PK)
 deriving Inhabited
structure Sig where
 args : List AK
 res : List RK
 deriving Inhabited
def PK.kd : PK→Kd
 | .int k=>.int k
 | .bool=>.bool
 | .str=>.str
 | .fz K | .own _ K=>.sl K.by_ K.kd
def Kd.yK : Kd→Bool | .sl _ _=>true | .os _=>true | _=>false
def dD {α : Type} (f : α→Bool) : List α→Bool
 | []=>false
 | a :: l=>(f a).or (dD f l)
def AK.ks : AK→List PK
 | .one k=>[k]
 | .agg l | .ptr l=>l
 | .fn _=>[]
def AK.ps : AK→List PK
 | .ptr l=>l
 | _=>[]
def RK.ks : RK→List PK
 | .one k=>[k]
 | .agg l=>l
def Sig.ins (s : Sig) : List PK:=s.args.flatMap AK.ks
def Sig.outs (s : Sig) : List PK:=s.args.flatMap AK.ps ++ s.res.flatMap RK.ks
def Sig.nP (s : Sig) : Nat:=(s.args.flatMap AK.ps).length
def mkC : Nat→Nat→List PK→List SC
 | _,_,[]=>[]
 | nx,na,.int k :: l=>.int k (.var nx) :: mkC (nx + 1) na l
 | nx,na,.bool :: l=>.bool (.var nx) :: mkC (nx + 1) na l
 | nx,na,.str :: l=>.str (.var nx) :: mkC (nx + 1) na l
 | nx,na,.fz K :: l=>.fz K (.var nx) :: mkC (nx + 1) na l
 | nx,na,.own _ _ :: l=>.sl na (.len (.var nx)) :: mkC (nx + 1) (na + 1) l
def mkA : Nat→List PK→List (Pc Ar)
 | _,[]=>[]
 | nx,.own e K :: l=>.at { e:=e,K:=K,x:=.var nx} :: mkA (nx + 1) l
 | nx,_ :: l=>mkA (nx + 1) l
def nL : Nat→List AK→List SC→List SR
 | r,.one _ :: l,c :: cs=>.v (.one c) :: nL r l cs
 | r,.agg ks :: l,cs=>.v (.agg (cs.take ks.length)) :: nL r l (cs.drop ks.length)
 | r,.ptr ks :: l,cs=>.v (.one (.loc r 0)) :: nL (r + 1) l (cs.drop ks.length)
 | r,.fn f :: l,cs=>.v (.one (.fn f [])) :: nL r l cs
 | _,_,_=>[]
def eh : List AK→List SC→List (Pc (List SC))
 | .one _ :: l,_ :: cs=>eh l cs
 | .agg ks :: l,cs=>eh l (cs.drop ks.length)
 | .ptr ks :: l,cs=>.at (cs.take ks.length) :: eh l (cs.drop ks.length)
 | .fn _ :: l,cs=>eh l cs
 | _,_=>[]
def dG : List AK→List SC→List (List SC)
 | .ptr ks :: l,cs=>cs.take ks.length :: dG l (cs.drop ks.length)
 | _ :: l,cs=>dG l cs
 | [],_=>[]
def ji : List RK→List SC→List SV
 | .one _ :: l,c :: cs=>.one c :: ji l cs
 | .agg ks :: l,cs=>.agg (cs.take ks.length) :: ji l (cs.drop ks.length)
 | _,_=>[]
def rG : List SV→SR
 | [x]=>.v x
 | l=>.tup l
def Sig.aE (s : Sig) : List SR:=nL 0 s.args (mkC 0 0 s.ins)
def Sig.h0 (s : Sig) : Hp:=⟨eh s.args (mkC 0 0 s.ins),mkA 0 s.ins,[]⟩
def Sig.h1 (s : Sig) : Hp:=⟨(dG s.args (mkC s.ins.length 0 s.outs)).map .at,mkA s.ins.length s.outs,[]⟩
def Sig.wY (s : Sig) : SR:=rG (ji s.res ((mkC s.ins.length 0 s.outs).drop s.nP))
def PK.wa : PK→Bool
 | .fz _=>true
 | .own _ K=>dD Kd.yK K.kd
 | _=>false
def Sig.kJ (s : Sig) : Bool:=dD PK.wa s.outs
def Sig.lO (s : Sig) : List Kd:=s.outs.map PK.kd
def Sig.l8 (s : Sig) : List Kd:=s.ins.map PK.kd
def SK.pos (K : SK) : Bool:=(Nat.blt 0 K.by_).and (Nat.blt 0 K.kd.length)
structure Mt where
 need : List X
 data : List X
 own : List (Option Nat)
 cU : List Nat
 deriving Inhabited
def mtC (h : Hp) : PK→SC→Option Mt
 | .int k,.int j x=>if IntKind.same k j then some ⟨[],[x],[],[]⟩ else none
 | .bool,.bool x=>some ⟨[],[x],[],[]⟩
 | .str,.str x=>some ⟨[],[x],[],[]⟩
 | .fz K,c=>if (fS K.kd).not then none else (match kZ h K c with
  | some (ns,x)=>some ⟨ns,[x],[],match c with | .sl a _=>[a] | _=>[]⟩
  | none=>none)
 | .own e K,.sl a n=>(match nth h.arrs a with
  | some (.at A)=>if (Nat.beq A.e e).and ((SK.same A.K K).and (osOk A.K.kd)) then some ⟨mkLe n (bm A.x) :: mi A,[cQ n A.x],[some a],[]⟩ else none
  | _=>none)
 | .own _ K,.nilsl=>if K.pos then some ⟨[],[.nil],[none],[]⟩ else none
 | .own _ K,.z0=>if K.pos then some ⟨[],[.nil],[none],[]⟩ else none
 | _,_=>none
def lW (h : Hp) : List PK→List SC→Option Mt
 | [],[]=>some ⟨[],[],[],[]⟩
 | k :: l,c :: cs=>(match mtC h k c,lW h l cs with | some m,some n=>some ⟨m.need ++ n.need,m.data ++ n.data,m.own ++ n.own,m.cU ++ n.cU⟩ | _,_=>none)
 | _,_=>none
def eO (h : Hp) : List AK→List SR→Option (List SC × List (Nat × Nat))
 | [],[]=>some ([],[])
 | .one _ :: l,.v (.one c) :: rs=>(match eO h l rs with | some (cs,ps)=>some (c :: cs,ps) | none=>none)
 | .agg ks :: l,.v (.agg c) :: rs=>if Nat.beq c.length ks.length then (match eO h l rs with | some (cs,ps)=>some (c ++ cs,ps) | none=>none) else none
 | .ptr ks :: l,.v (.one (.loc r o)) :: rs=>(match nth h.regs r with
  | some (.at old)=>(match eR old o ks.length,eO h l rs with
   | some c,some (cs,ps)=>some (c ++ cs,(r,o) :: ps)
   | _,_=>none)
  | _=>none)
 | .fn f :: l,.v (.one (.fn k [])) :: rs=>if Nat.beq f k then eO h l rs else none
 | _,_=>none
def wg : List PK→List SC→Option Nat
 | .fz _ :: _,.sl a _ :: _=>some a
 | _ :: l,_ :: m=>wg l m
 | _,_=>none
def yN (h : Hp) : List PK→List SC→Option Nat
 | .fz _ :: l,.sl a _ :: m=>(match nth h.arrs a with | some (.at A)=>if fS A.K.kd then yN h l m else some a | _=>yN h l m)
 | _ :: l,_ :: m=>yN h l m
 | _,_=>none
def cT : List (Option Nat)→List Nat
 | []=>[]
 | some a :: l=>a :: cT l
 | none :: l=>cT l
def dX (arrs : List (Pc Ar)) : List Nat→List (Pc Ar)
 | []=>arrs
 | a :: l=>dX (bj arrs a .go) l
def cZ : List (Pc (List SC))→List (Nat × Nat)→List (List SC)→List (Pc (List SC))
 | regs,(r,o) :: ps,c :: cs=>cZ (match nth regs r with | some (.at old)=>bj regs r (.at (cq old o c)) | _=>regs) ps cs
 | regs,_,_=>regs
abbrev CT:=List (Nat × Sig)
def CT.get : CT→Nat→Option Sig
 | [],_=>none
 | (u,i) :: l,t=>if Nat.beq u t then some i else CT.get l t
abbrev FT:=List (Nat × Func)
def FT.get : FT→Nat→Option Func
 | [],_=>none
 | (u,i) :: l,t=>if Nat.beq u t then some i else FT.get l t
def SC.under (n : Nat) : SC→Bool
 | .int _ x | .bool x | .str x | .fz _ x | .sl _ x=>x.under n
 | .fp _ x i _ | .sub _ _ x i=>(x.under n).and (i.under n)
 | .ep _ _ i _=>i.under n
 | _=>true
def SV.under (n : Nat) : SV→Bool
 | .one c=>c.under n
 | .agg l=>dr (SC.under n) l
def SR.under (n : Nat) : SR→Bool
 | .v x=>x.under n
 | .tup l=>dr (SV.under n) l
def Hp.under (n : Nat) (h : Hp) : Bool :=
 (dr (Pc.all (dr (SC.under n))) h.regs).and ((dr (Pc.all fun A=>A.x.under n) h.arrs).and (dr (Pc.all fun A=>A.x.under n) h.mps))
def St.fine (s : St) : Bool:=(dr (SR.under s.nx) s.tmps).and ((dr (dr (SR.under s.nx)) s.stk).and ((s.h.under s.nx).and (dr (X.under s.nx) s.known)))
inductive HK where
 | any | lt | own (e : Nat) (K : SK) | fz (K : SK)
 deriving Inhabited
structure Hint where
 fn : Nat
 reg : Nat
 unroll : Bool
 ts : List (Nat × HK)
 rs : List (Nat × Nat × HK)
 fr : List Nat
 mp : List Nat:=[]
 at_ : Nat:=0
 deriving Inhabited
def ig : Code→Option Nat
 | .region id _ _=>some id
 | .seq a b=>match ig a with | some n=>some n | none=>ig b
 | .cond _ a b=>match ig a with | some n=>some n | none=>ig b
 | .block _ c | .loop c | .scope c=>ig c
 | _=>none
def wo : Code→List Nat
 | .region _ ops _=>ops.toList.filterMap (·.dst)
 | .seq a b=>wo a ++ wo b
 | .cond _ a b=>wo a ++ wo b
 | .block _ c | .loop c | .scope c=>wo c
 | _=>[]
def sC (f r n : Nat) : List Hint→Option Hint
 | []=>none
 | x :: l=>if (Nat.beq x.fn f).and ((Nat.beq x.reg r).and ((Nat.beq x.at_ 0).or (Nat.beq x.at_ n))) then some x else sC f r n l
structure Hd where
 nx : Nat
 h : Hp
 ks : List Kd
 ok : Bool
 al : List (Nat × SC):=[]
def Hd.gO (d : Hd) (k : Kd) (_ : X) : Hd:={ d with nx:=d.nx + 1,ks:=d.ks ++ [k]}
def xF (k : HK) (c : SC) (d : Hd) : SC × Hd :=
 match k,c with
 | .any,_=>(.any,d)
 | .lt,.int k x=>(.int k (.var d.nx),d.gO (.int k) x)
 | .lt,.bool x=>(.bool (.var d.nx),d.gO .bool x)
 | .lt,.str x=>(.str (.var d.nx),d.gO .str x)
 | .lt,.fz K x=>(.fz K (.var d.nx),d.gO (.sl K.by_ K.kd) x)
 | .fz K,.fz _ x=>(.fz K (.var d.nx),d.gO (.sl K.by_ K.kd) x)
 | .fz K,.nilsl=>(.fz K (.var d.nx),d.gO (.sl K.by_ K.kd) .nil)
 | .fz K,.z0=>(.fz K (.var d.nx),d.gO (.sl K.by_ K.kd) .nil)
 | .own e K,.nilsl=>(.sl d.h.arrs.length (.len (.var d.nx)),{ d.gO (.sl K.by_ K.kd) .nil with ok:=d.ok.and K.pos,h:={ d.h with arrs:=d.h.arrs ++ [.at { e:=e,K:=K,x:=.var d.nx}]}})
 | .own e K,.sl b n=>(match nth d.h.arrs b with
   | some (.at A)=>(.sl d.h.arrs.length (.len (.var d.nx)),{ d.gO (.sl K.by_ K.kd) (cQ n A.x) with h:={ d.h with arrs:=(bj d.h.arrs b .go) ++ [.at { e:=e,K:=K,x:=.var d.nx}]},al:=(b,.sl d.h.arrs.length (.len (.var d.nx))) :: d.al})
   | _=>(match ed b d.al with | some c'=>(c',d) | none=>(c,{ d with ok:=false})))
 | _,c=>(c,{ d with ok:=false})
def xE (h : Hint) (ds : List Nat) : Nat→List SR→Hd→List SR × Hd
 | _,[],d=>([],d)
 | i,t :: l,d =>
  let (t',d):=match ed i h.ts,t with
   | some k,.v (.one c)=>(match xF k c d with | (c,d)=>(SR.v (.one c),d))
   | some .any,_=>(SR.v (.one .any),d)
   | some _,_=>(t,{ d with ok:=false})
   | none,t=>if nK i ds then (SR.v (.one .any),d) else (t,d)
  match xE h ds (i + 1) l d with | (l',d)=>(t' :: l',d)
def Ck (h : Hint) (r : Nat) : Nat→List SC→Hd→List SC × Hd
 | _,[],d=>([],d)
 | o,c :: l,d =>
  let (c',d):=match lookR r o h.rs with
   | some k=>xF k c d
   | none=>(c,d)
  match Ck h r (o + 1) l d with | (l',d)=>(c' :: l',d)
def Ce (h : Hint) : Nat→List (Pc (List SC))→Hd→List (Pc (List SC)) × Hd
 | _,[],d=>([],d)
 | r,.at cs :: l,d=>(match Ck h r 0 cs d with
  | (cs',d)=>match Ce h (r + 1) l d with | (l',d)=>(.at cs' :: l',d))
 | r,_ :: l,d=>(match Ce h (r + 1) l d with | (l',d)=>(.go :: l',d))
def uZ (h : Hint) : Nat→List (Pc Mp)→Hd→List (Pc Mp) × Hd
 | _,[],d=>([],d)
 | a,.at M :: l,d=>if nK a h.mp then (match uZ h (a + 1) l (d.gO (.sl 0 (M.kk ++ [M.vk])) .nil) with | (l',d')=>(.at { M with x:=.var d.nx} :: l',d'))
  else (match uZ h (a + 1) l d with | (l',d')=>(.at M :: l',d'))
 | a,x :: l,d=>(match uZ h (a + 1) l d with | (l',d')=>(x :: l',d'))
structure LI where
 hd : St
 nx0 : Nat
 r0 : Nat
 a0 : Nat
 ks : List Kd
structure Sub where
 ls : List (Nat × Kd × X)
 as : List (Nat × Nat)
 no : List Nat
def Sub.fail (b : Sub) (l : List Nat) : Sub:={ b with no:=7 :: (b.no ++ l)}
def Sub.fh (b : Sub) (i : Nat) (k : Kd) (x : X) : Sub:={ b with ls:=(i,k,x) :: b.ls}
def l6 (L : LI) (i : Nat) : Bool:=(Nat.blt L.nx0 i).and (Nat.blt i L.hd.nx)
def SC.old (L : LI) (c : SC) : Bool:=(c.under L.nx0).and (match c with
 | .sl a _ | .ep a _ _ _ | .sub a _ _ _=>Nat.blt a L.a0
 | .loc r _=>Nat.blt r L.r0
 | .fn _ caps=>dr (fun (x : Nat × Nat)=>Nat.blt x.1 L.r0) caps
 | _=>true)
def SV.old (L : LI) : SV→Bool
 | .one c=>c.old L
 | .agg l=>dr (SC.old L) l
def SR.old (L : LI) : SR→Bool
 | .v x=>x.old L
 | .tup l=>dr (SV.old L) l
def jP (L : LI) (w : List Nat) (hc c : SC) (b : Sub) : Sub:=if (SC.same hc c).and (hc.old L) then b else b.fail w
def bkC (L : LI) (s : St) (w : List Nat) (hc c : SC) (b : Sub) : Sub :=
 match hc with
 | .any=>b
 | .int k (.var i)=>if l6 L i then (match c with | .int j x=>if IntKind.same k j then b.fh i (.int k) x else b.fail w | _=>b.fail w) else jP L w hc c b
 | .bool (.var i)=>if l6 L i then (match c with | .bool x=>b.fh i .bool x | _=>b.fail w) else jP L w hc c b
 | .str (.var i)=>if l6 L i then (match c with | .str x=>b.fh i .str x | _=>b.fail w) else jP L w hc c b
 | .fz K (.var i)=>if l6 L i then (match c with
   | .fz J x=>if (SK.same K J).and (fS K.kd) then b.fh i (.sl K.by_ K.kd) x else b.fail w
   | .nilsl | .z0=>b.fh i (.sl K.by_ K.kd) .nil
   | _=>b.fail w) else jP L w hc c b
 | .sl a (.len (.var i))=>if (l6 L i).and (Nat.ble L.a0 a) then (match nth L.hd.h.arrs a with
   | some (.at A)=>if X.same A.x (.var i) then (match c with
    | .sl a' n=>(match nth s.h.arrs a' with
     | some (.at B)=>(match X.dec s.known (mkLe n (bm B.x)) with
      | some true=>(match ed a b.as,ed i b.ls with
       | some c',some (_,x)=>if (Nat.beq c' (a' + 1)).and (X.same x (cQ n B.x)) then b else b.fail w
       | _,_=>if (Nat.beq A.e B.e).and ((SK.same A.K B.K).and (iR s.known B)) then { b.fh i (.sl A.K.by_ A.K.kd) (cQ n B.x) with as:=(a,a' + 1) :: b.as} else b.fail w)
      | _=>b.fail w)
     | _=>b.fail w)
    | .nilsl=>if A.K.pos then { b.fh i (.sl A.K.by_ A.K.kd) .nil with as:=(a,0) :: b.as} else b.fail w
    | _=>b.fail w) else b.fail w
   | _=>b.fail w)
  else jP L w hc c b
 | hc=>jP L w hc c b
def bkR (L : LI) (s : St) (w : List Nat) (hc c : SR) (b : Sub) : Sub:=match hc,c with
 | .v (.one .any),_=>b
 | .v (.one hc),.v (.one c)=>bkC L s w hc c b
 | hc,c=>if (SR.same hc c).and (hc.old L) then b else b.fail w
def jN (L : LI) (s : St) : Nat→List SR→List SR→Sub→Sub
 | _,[],[],b=>b
 | i,t :: l,u :: m,b=>jN L s (i + 1) l m (bkR L s [1,i] t u b)
 | _,_,_,b=>b.fail [1]
def iZ (L : LI) (s : St) (r : Nat) : Nat→List SC→List SC→Sub→Sub
 | _,[],[],b=>b
 | o,c :: l,d :: m,b=>iZ L s r (o + 1) l m (bkC L s [2,r,o] c d b)
 | _,_,_,b=>b.fail [2,r]
def Az (L : LI) (s : St) : Nat→List (Pc (List SC))→List (Pc (List SC))→Sub→Sub
 | _,[],_,b=>b
 | r,.at c :: l,.at d :: m,b=>Az L s (r + 1) l m (iZ L s r 0 c d b)
 | r,.go :: l,_ :: m,b=>Az L s (r + 1) l m b
 | r,_,_,b=>b.fail [2,r]
def gQ (L : LI) (s : St) : Nat→List (Pc Ar)→Sub→Sub
 | _,[],b=>b
 | a,.go :: l,b=>gQ L s (a + 1) l b
 | a,.fr :: l,b=>gQ L s (a + 1) l (b.fail [3,a])
 | a,.at A :: l,b=>gQ L s (a + 1) l (if Nat.blt a L.a0 then (match nth s.h.arrs a with
   | some (.at B)=>if ((Nat.beq A.e B.e).and ((SK.same A.K B.K).and (iR s.known B))).and ((X.same A.x B.x).and (A.x.under L.nx0)) then b else b.fail [3,a]
   | _=>b.fail [3,a]) else (match ed a b.as with | some _=>b | none=>b.fail [3,a]))
def yD (A B : Mp) : Bool:=((Nat.beq A.tk B.tk).and (Nat.beq A.tv B.tv)).and (((Kd.jt A.kk B.kk).and (Kd.same A.vk B.vk)).and (fg A.agg B.agg))
def wx (L : LI) (A B : Mp) (b : Sub) : Sub:=if yD A B then (if (X.same A.x B.x).and (A.x.under L.nx0) then b else (match A.x with
  | .var i=>if l6 L i then b.fh i (.sl 0 (A.kk ++ [A.vk])) B.x else b.fail [5]
  | _=>b.fail [5])) else b.fail [5]
def mj (L : LI) : List (Pc Mp)→List (Pc Mp)→Sub→Sub
 | [],[],b=>b
 | .at A :: l,.at B :: m,b=>mj L l m (wx L A B b)
 | .go :: l,.go :: m,b=>mj L l m b
 | _,_,b=>b.fail [5]
def qK (L : LI) (t u : SR) : Bool:=match t with
 | .v (.one .any)=>true
 | t=>(SR.same t u).and (t.old L)
def sQ (L : LI) (l m : List (List SR)) : Bool:=eY (eY (qK L)) l m
def pO (L : LI) (b : Sub) : Nat→List (Pc Ar)→List Nat
 | _,[]=>[]
 | a,.fr :: l | a,.go :: l=>pO L b (a + 1) l
 | a,.at _ :: l=>(if Nat.blt a L.a0 then [a] else (match ed a b.as with | some (c + 1)=>[c] | _=>[])) ++ pO L b (a + 1) l
def collect (ls : List (Nat × Kd × X)) : Nat→List Kd→Option (List X)
 | _,[]=>some []
 | i,k :: ks=>match ed i ls,collect ls (i + 1) ks with
  | some (k',x),some l=>if Kd.same k k' then some (x :: l) else none
  | _,_=>none
def holds (L : LI) (s : St) : Sub :=
 let b:=gQ L s 0 L.hd.h.arrs (Az L s 0 L.hd.h.regs s.h.regs (jN L s 0 L.hd.tmps s.tmps (mj L L.hd.h.mps s.h.mps ⟨[],[],[]⟩)))
 if ((sQ L L.hd.stk s.stk).and (dN (pO L b 0 L.hd.h.arrs))).and (((dN (b.ls.map (·.1))).and (dN (b.as.map (·.1)))).and ((Nat.ble L.a0 L.hd.h.arrs.length).and ((Nat.beq L.r0 L.hd.h.regs.length).and (Nat.beq L.hd.nx (L.nx0 + 1 + L.ks.length))))) then b else b.fail [4]
def za (L : LI) (s : St) : Tree :=
 let b:=holds L s
 match b.no with
 | []=>(match collect b.ls (L.nx0 + 1) L.ks with
  | some cs=>.back L.nx0 cs
  | none=>.bad "letters" [])
 | l=>.bad "round" (L.hd.fn :: l)
inductive It where
 | code (c : Code)
 | blk (id : Nat)
 | ops (l : List Oper) (all : List Oper)
 | again (body : Code)
 | round (L : LI)
 | fin (k : St→Tree)
def gw (id : Nat) : List It→Option (List It)
 | []=>none
 | .blk j :: k=>if Nat.beq j id then some k else gw id k
 | .fin _ :: _=>none
 | _ :: k=>gw id k
def rU : List It→Option (St→Tree)
 | []=>none
 | .fin k :: _=>some k
 | _ :: k=>rU k
def eI : List X→List X→Tree→Tree
 | _,[],t=>t
 | known,b :: l,t=>match X.dec known b with
  | some true=>eI known l t
  | some false=>.bad "a need that is false" []
  | none=>.need b (eI (b :: known) l t)
def dc (known : List X) : List X→List X
 | []=>known
 | b :: l=>match X.dec known b with
  | some true=>dc known l
  | _=>dc (b :: known) l
def lL (T : TT) (h : Hp) (tm : List SR) : List ResultVar→Option (List SV)
 | []=>some []
 | .tmp t :: l=>match nth tm t,lL T h tm l with
  | some (.v x),some m=>some (x :: m)
  | _,_=>none
 | .cell t ty :: l=>match nth tm t,lL T h tm l with
  | some (.v (.one (.loc r o))),some m=>(match loadAt T h ty (.v (.one (.loc r o))) with
   | .val [] (.v x) _ _=>some (x :: m)
   | _=>none)
  | _,_=>none
def gU (tm : List SR) (d : Option Nat) (r : SR) : List SR:=match d with
 | some d=>bj tm d r
 | none=>tm
def tG (a : Nat) (i : X) (o : Nat) (s : St) : Option (List X × St):=match nth s.h.arrs a with
 | some (.at A)=>(match nth A.K.kd o with
  | some (.os e)=>some (dg i (bm A.x) ++ [.isO (cz A.x i o)],{ s with h:={ s.h with arrs:=bj s.h.arrs a (.at { A with x:=mkSet A.x i o (.ref s.h.arrs.length (.len (.shut (cz A.x i o))))}) ++ [.at { e:=e,K:=qZ,x:=.shut (cz A.x i o)}]}})
  | _=>none)
 | _=>none
def lQ (a : Nat) (i : X) (o : Nat) (s : St) (again : St→Tree) : Tree:=match tG a i o s with
 | some (ns,s')=>eI s.known ns (again { s' with known:=dc s.known ns})
 | none=>.bad "open" [a]
def dp : Nat→List (Pc Ar)→Option (Nat × Nat × Nat × X × Nat × X)
 | _,[]=>none
 | a,.at A :: l=>(match gV 0 A.K.kd with
  | [(j,e)]=>(match l9 j A.x with
   | some (i,b,n)=>some (a,j,e,i,b,n)
   | none=>dp (a + 1) l)
  | _=>dp (a + 1) l)
 | a,_ :: l=>dp (a + 1) l
def rm (a j e : Nat) (i : X) (b : Nat) (n : X) (s : St) : Option (List X × St):=match nth s.h.arrs a,nth s.h.arrs b with
 | some (.at A),some (.at S)=>if ((SK.same S.K qZ).and (Nat.beq S.e e)).and (Nat.beq a b).not then
   some (dg i (bm A.x) ++ [mkLe (.int 0) (mkAdd (.int 0) n),mkLe (mkAdd (.int 0) n) (bm S.x)],{ s with h:={ s.h with arrs:=bj (bj s.h.arrs a (.at { A with x:=lB j (.own (cQ (mkAdd (.int 0) n) S.x)) A.x})) b .go}})
  else none
 | _,_=>none
def fu : Nat→St→(St→Tree)→Tree
 | 0,s,k=>k s
 | m + 1,s,k=>(match dp 0 s.h.arrs with
  | none=>k s
  | some (a,j,e,i,b,n)=>(match rm a j e i b n s with
   | some (ns,s')=>eI s.known ns (fu m { s' with known:=dc s.known ns} k)
   | none=>.bad "close" [a,b]))
def qP : List (Pc Ar)→List X
 | []=>[]
 | .at A :: l=>mi A ++ qP l
 | _ :: l=>qP l
def frzNs (a : Nat) (s : St) : List X:=match nth s.h.arrs a with
 | some (.at A)=>mi A
 | _=>[]
def iT (a : Nat) (s : St) (k : St→Tree) : Tree:=eI s.known (frzNs a s) (match pv a { s with known:=dc s.known (frzNs a s)} with
 | some s=>k s
 | none=>.bad "freeze" [a])
def qW (a b : Nat) (i n : X) (s : St) : List X:=match nth s.h.arrs a,nth s.h.arrs b with
 | some (.at A),some (.at S)=>dg i (bm A.x) ++ [mkLe (.int 0) (mkAdd (.int 0) n),mkLe (mkAdd (.int 0) n) (bm S.x)]
 | _,_=>[]
def tR (a j e b : Nat) (n : X) (s : St) : Option St:=match nth s.h.arrs a,nth s.h.arrs b with
 | some (.at A),some (.at S)=>if ((SK.same S.K qZ).and (Nat.beq S.e e)).and (Nat.beq a b).not then (match pv b s with
  | some t=>some { t with h:={ t.h with arrs:=bj t.h.arrs a (.at { A with x:=lB j (cQ (mkAdd (.int 0) n) S.x) A.x})}}
  | none=>none) else none
 | _,_=>none
def hZ : List Nat→St→(St→Tree)→Tree
 | [],s,k=>k s
 | b :: l,s,k=>(match dp 0 s.h.arrs with
  | some (a,j,e,i,c,n)=>if Nat.beq b c then eI s.known (qW a b i n s) (match tR a j e b n { s with known:=dc s.known (qW a b i n s)} with
   | some t=>hZ l t k
   | none=>.bad "lend" [a,b]) else hZ l s k
  | none=>hZ l s k)
structure Cx where
 T : TT
 C : CT
 F : FT
 hints : List Hint
 sig : Sig
def nw (h : Hp) : Nat→List AK→Option (List SC)
 | _,[]=>some []
 | r,.ptr ks :: l=>(match nth h.regs r,nw h (r + 1) l with
  | some (.at cs),some m=>if Nat.beq cs.length ks.length then some (cs ++ m) else none
  | _,_=>none)
 | r,_ :: l=>nw h r l
def je : List RK→List SV→Option (List SC)
 | [],[]=>some []
 | .one _ :: l,.one c :: vs=>(match je l vs with | some m=>some (c :: m) | none=>none)
 | .agg ks :: l,.agg c :: vs=>if Nat.beq c.length ks.length then (match je l vs with | some m=>some (c ++ m) | none=>none) else none
 | _,_=>none
def nS (Z : Cx) (res : List ResultVar) : Nat→St→Tree
 | 0,_=>.bad "fuel" []
 | n + 1,s=>match lL Z.T s.h s.tmps res with
  | none=>.bad "results" []
  | some vals=>match nw s.h 0 Z.sig.args,je Z.sig.res vals with
   | some cs,some ds=>(match wg Z.sig.outs (cs ++ ds) with
    | some a=>iT a s (fun s=>nS Z res n s)
    | none=>match lW s.h Z.sig.outs (cs ++ ds) with
     | none=>.bad "results kinds" []
     | some m=>if dN (cT m.own) then eI s.known m.need (.ret m.data) else .bad "one array twice" [])
   | _,_=>.bad "results forms" []
def aP (Z : Cx) (res : List ResultVar) (n : Nat) (s : St) : Tree:=fu 8 s (nS Z res n)
def guardOf (all : List Oper) (tm : List SR) (o : Oper) : Option (Option X × Bool) :=
 match o.guard with
 | none=>some (none,true)
 | some (j,want)=>match nth all j with
  | some oj=>(match oj.dst with
   | some d=>(match nth tm d with
    | some (.v (.one (.bool b)))=>some (some b,want)
    | some (.v (.one .undef))=>some (some (.bool want.not),want)
    | _=>none)
   | none=>none)
  | none=>none
def kY (b : X) (s : St) (k : St→Tree) : Tree:=.ite b (k { s with known:=X.iG b ++ s.known}) (k { s with known:=X.iG (neg b) ++ s.known})
def written (b : X) (c : Bool) (s : St) : St:={ s with tmps:=s.tmps.map fun r=>match r with | .v (.one (.bool d))=>if X.same d b then .v (.one (.bool (.bool c))) else r | r=>r}
def xU (s : St) (dst : Option Nat) (f : Nat) (sg : Sig) (args : List SR) (again next : St→Tree) : Tree :=
 match eO s.h sg.args args with
 | none=>.bad "arguments" [f]
 | some (cs,ps)=>match (if sg.kJ then wg sg.ins cs else yN s.h sg.ins cs) with
  | some a=>iT a s again
  | none=>match lW s.h sg.ins cs with
   | none=>.bad "arguments kinds" [f]
   | some m=>if ((dN (cT m.own)).and (dD (fun a=>nK a (cT m.own)) m.cU).not).and ((dN (ps.map (·.1))).and s.fine) then
     let cells:=mkC s.nx s.h.arrs.length sg.outs
     eI s.known m.need (.call f m.data s.nx (next { s with
      tmps:=gU s.tmps dst (rG (ji sg.res (cells.drop sg.nP)))
      h:={ s.h with regs:=cZ s.h.regs ps (dG sg.args cells),arrs:=dX s.h.arrs (cT m.own) ++ mkA s.nx sg.outs}
      nx:=s.nx + sg.outs.length}))
    else .bad "arguments" [f]
def Sig.quiet (s : Sig) : Bool:=(dD (fun (k : AK)=>match k with | .ptr _=>true | _=>false) s.args).not.and (dD (fun (k : PK)=>match k with | .own _ _=>true | _=>false) s.ins).not
def nilT (n : X) (neg : Bool) (s : St) (d : Option Nat) (next : St→Tree) : Tree :=
 .ite (mkEq n (.int 0)) (.both (next { s with tmps:=gU s.tmps d (.v (.one (.bool (.bool neg.not)))),known:=X.iG (mkEq n (.int 0)) ++ s.known}) (next { s with tmps:=gU s.tmps d (.v (.one (.bool (.bool neg)))),known:=X.iG (mkEq n (.int 0)) ++ s.known}))
  (next { s with tmps:=gU s.tmps d (.v (.one (.bool (.bool neg)))),known:=X.iG (Go.Sy.neg (mkEq n (.int 0))) ++ s.known})
def mv (Z : Cx) (inl : Func→Nat→List SR→Option Nat→St→(St→Tree)→Tree) (fp : Bool) (sr sa : Nat) (s : St) (o : Oper) (all : List Oper) (again next : St→Tree) : Tree :=
 match guardOf all s.tmps o with
 | none=>.bad "guard" []
 | some (g,want) =>
  match (match g with | none=>some true | some b=>(match X.dec s.known b with | some x=>some (if want then x else x.not) | none=>none)) with
  | none=>(match g with | some b=>kY b s again | none=>.bad "guard" [])
  | some false=>next { s with tmps:=gU s.tmps o.dst (.v (.one .undef))}
  | some true=>match aop Z.T s.tmps s.h sr sa o.op with
   | .val ns r h q=>if fp.and q.not then .bad "not quiet" [] else eI s.known ns (next { s with tmps:=gU s.tmps o.dst r,h:=h,known:=dc s.known ns})
   | .skip ns h=>if fp then .bad "a store" [] else eI s.known ns (next { s with tmps:=gU s.tmps o.dst (.v (.one .undef)),h:=h,known:=dc s.known ns})
   | .ask b=>(match X.dec s.known b with
    | some c=>again (written b c s)
    | none=>kY b s again)
   | .frz a=>iT a s again
   | .opn a i o=>lQ a i o s again
   | .nilq n neg=>nilT n neg s o.dst next
   | .call f args=>(match Z.C.get f with
    | some sg=>if fp.and sg.quiet.not then .bad "a call that changes" [f] else xU s o.dst f sg args again next
    | none=>(match Z.F.get f with
     | some fn=>if fp then .bad "a call walked through drawn" [f] else inl fn f args o.dst s next
     | none=>.bad "no contract" [f]))
   | .bad why=>.bad why [o.dst.getD 999]
def uB (Z : Cx) (s : St) (o : Oper) (all : List Oper) (again next : St→Tree) : Tree :=
 match guardOf all s.tmps o with
 | none=>.bad "guard" []
 | some (g,want) =>
  match (match g with | none=>some true | some b=>(match X.dec s.known b with | some x=>some (if want then x else x.not) | none=>none)) with
  | none=>(match g with | some b=>kY b s again | none=>.bad "guard" [])
  | some false=>next { s with tmps:=gU s.tmps o.dst (.v (.one .undef))}
  | some true=>match aop Z.T s.tmps s.h 0 0 o.op with
   | .val ns r _ _=>eI s.known ns (next { s with tmps:=gU s.tmps o.dst r,known:=dc s.known ns})
   | .ask b=>(match X.dec s.known b with
    | some c=>again (written b c s)
    | none=>kY b s again)
   | .frz a=>iT a s again
   | .opn a i o=>lQ a i o s again
   | .nilq n neg=>nilT n neg s o.dst next
   | .bad why=>.bad why [o.dst.getD 999]
   | _=>.bad "no reading" [o.dst.getD 999]
def Ar.same (A B : Ar) : Bool:=(Nat.beq A.e B.e).and ((SK.same A.K B.K).and (X.same A.x B.x))
def Mp.same (A B : Mp) : Bool:=((Nat.beq A.tk B.tk).and (Nat.beq A.tv B.tv)).and (((Kd.jt A.kk B.kk).and (fg A.agg B.agg)).and ((Kd.same A.vk B.vk).and (X.same A.x B.x)))
def Hp.same (h k : Hp) : Bool:=(bK (Pc.same (bK SC.same)) h.regs k.regs).and ((bK (Pc.same Ar.same) h.arrs k.arrs).and (bK (Pc.same Mp.same) h.mps k.mps))
def St.same (s t : St) : Bool:=((Nat.beq s.fn t.fn).and (Nat.beq s.nx t.nx)).and ((bK SR.same s.tmps t.tmps).and ((bK (bK SR.same) s.stk t.stk).and (Hp.same s.h t.h)))
def Tree.same : Tree→Tree→Bool
 | .ret o,.ret p=>bK X.same o p
 | .ite b t e,.ite c u f=>(X.same b c).and ((Tree.same t u).and (Tree.same e f))
 | .need b t,.need c u=>(X.same b c).and (Tree.same t u)
 | .call f a lo t,.call g b mo u=>((Nat.beq f g).and (Nat.beq lo mo)).and ((bK X.same a b).and (Tree.same t u))
 | .loop i ks l t,.loop j ms m u=>((Nat.beq i j).and (Kd.jt ks ms)).and ((bK X.same l m).and (Tree.same t u))
 | .back i l,.back j m=>(Nat.beq i j).and (bK X.same l m)
 | .both a b,.both c d=>(Tree.same a c).and (Tree.same b d)
 | .leaf s,.leaf t=>(St.same s t).and (bK X.same s.known t.known)
 | _,_=>false
def vm (t u : Tree) : Tree:=if Tree.same t u then t else .both t u
def allT : List Tree→Tree
 | []=>.bad "none" []
 | [t]=>t
 | t :: l=>vm t (allT l)
def kO (n0 : Nat) (k : St→Tree) : Tree→Tree
 | .leaf s=>k s
 | .ret o=>.ret o
 | .ite b t e=>.ite b (kO n0 k t) (kO n0 k e)
 | .need b t=>.need b (kO n0 k t)
 | .call f a lo t=>.call f a lo (kO n0 k t)
 | .loop id ks i t=>if Nat.ble n0 id then .loop id ks i (kO n0 k t) else .bad "loop" []
 | .back id c=>.back id c
 | .both a b=>vm (kO n0 k a) (kO n0 k b)
 | .bad w l=>.bad w l
def calm (Z : Cx) (l : List Oper) : Bool:=(dD (fun (o : Oper)=>match o.op with
 | .call ⟨.value (.func f),_,_⟩=>(match Z.C.get f with | some sg=>sg.quiet.not | none=>false)
 | .call ⟨.value (.tmp _),_,_⟩=>(match o.guard with | some _=>true | none=>false)
 | _=>false) l).not
def eV (o : Oper) : Bool:=(reads o).and (match o.op with | .load _ _=>false | _=>true)
def ke (o : Oper) : Bool:=match o.op with | .store _ _ _=>true | _=>false
def ni (ops : Array Oper) (m md i : Nat) : Bool:=(Nat.beq md 3).not.or ((inF ops m i).not.or (match ops[i]? with | some o=>eV o | none=>false))
def AH (ops : Array Oper) (m md i : Nat) : Nat:=if (Nat.beq md 0).or (inF ops m i) then md else (match ops[i]? with
 | some o=>if eV o then md else if ke o then (if Nat.beq md 1 then 2 else md) else 3
 | none=>3)
def still (ops : Array Oper) (m md i : Nat) : Bool:=((Nat.beq md 0).or (Nat.beq md 3)).not.and (inF ops m i)
def jX (Z : Cx) (ops : Array Oper) (m rb ab : Nat) (i md : Nat) (s : St) : Option (List X × St) :=
 match nth ops.toList i with
 | none=>none
 | some o=>if (ni ops m md i).not then none else
  match guardOf ops.toList s.tmps o with
  | none=>none
  | some (g,want) =>
   match (match g with | none=>some true | some b=>(match X.dec s.known b with | some x=>some (if want then x else x.not) | none=>none)) with
   | none=>none
   | some false=>some ([],{ s with tmps:=gU s.tmps o.dst (.v (.one .undef))})
   | some true=>match aop Z.T s.tmps s.h (rb + i) (ab + i) o.op with
    | .val ns r h q=>if (still ops m md i).and q.not then none else some (ns,{ s with tmps:=gU s.tmps o.dst r,h:=h,known:=dc s.known ns})
    | .skip ns h=>if still ops m md i then none else some (ns,{ s with tmps:=gU s.tmps o.dst (.v (.one .undef)),h:=h,known:=dc s.known ns})
    | _=>none
def xX (Z : Cx) (ops : Array Oper) (rb ab : Nat) (i : Nat) (s : St) : Option (X × Bool):=match nth ops.toList i with
 | none=>none
 | some o=>(match aop Z.T s.tmps s.h (rb + i) (ab + i) o.op with
  | .ask b=>(match X.dec s.known b with | some c=>some (b,c) | none=>none)
  | _=>none)
def jW (Z : Cx) (ops : Array Oper) (m rb ab : Nat) (i md : Nat) (s : St) : Option (List X × St):=match jX Z ops m rb ab i md s with
 | some r=>some r
 | none=>(match xX Z ops rb ab i s with
  | some (b,c)=>jX Z ops m rb ab i md (written b c s)
  | none=>none)
abbrev Sts:=List (Array Bool × Nat × St)
def sf (a b : Array Bool) : Bool:=bK fg a.toList b.toList
def sX (mask : Array Bool) (md : Nat) (s : St) : Sts→Option Sts
 | []=>some [(mask,md,s)]
 | (m,d,t) :: l=>if sf m mask then (if (Nat.beq md d).and (St.same t s) then some ((m,d,t) :: l) else none) else (match sX mask md s l with | some l=>some ((m,d,t) :: l) | none=>none)
def iD (Z : Cx) (ops : Array Oper) (m rb ab : Nat) (mask : Array Bool) (md : Nat) (s : St) : List Nat→List X × Sts→Option (List X × Sts)
 | [],r=>some r
 | i :: l,(ns,L)=>match jW Z ops m rb ab i md s with
  | none=>none
  | some (ns',s')=>match sX (mask.setIfInBounds i true) (AH ops m md i) s' L with
   | none=>none
   | some L=>iD Z ops m rb ab mask md s l (ns ++ ns',L)
def gR (Z : Cx) (ops : Array Oper) (m rb ab : Nat) : Sts→List X × Sts→Option (List X × Sts)
 | [],r=>some r
 | (mask,md,s) :: l,r=>match Region.ready .any ops mask with
  | []=>none
  | rs=>(match iD Z ops m rb ab mask md s rs r with
   | none=>none
   | some r=>gR Z ops m rb ab l r)
def slot (sl : Bool) (b i : Nat) {α : Type} (l : List α) : Nat:=if sl then b + i else l.length
def tC (tab : List Nat) (ops : Array Oper) (l : Array Bool) (i : Nat) : Bool:=match ops[i]? with
 | none=>false
 | some oi=>(eV oi).and ((List.range ops.size).all fun j=>(Nat.beq j i).or ((l.getD j true).or ((waits tab j i).or (match ops[j]? with
   | some oj=>oi.apart ops oj
   | none=>true))))
def nj (tab : List Nat) (ops : Array Oper) (m md : Nat) (l : Array Bool) (i : Nat) : Bool:=((Nat.ble md 2).and (inF ops m i)).and ((match ops[i]? with | some o=>reads o | none=>false).and (ue tab ops m l i))
def jh (Z : Cx) (inl : Func→Nat→List SR→Option Nat→St→(St→Tree)→Tree) (tab : List Nat) (ops : Array Oper) (m rb ab : Nat) (sl : Bool) : Nat→Sts→(St→Tree)→Tree
 | 0,_,_=>.bad "fuel" []
 | n + 1,[(mask,md,s)],k=>(match Region.ready .any ops mask with
  | []=>k s
  | rs=>(match rs.find? (tC tab ops mask) with
   | some i=>(match nth ops.toList i with
    | none=>.bad "drawn" []
    | some o=>uB Z s o ops.toList (fun s=>jh Z inl tab ops m rb ab sl n [(mask,md,s)] k) (fun s=>jh Z inl tab ops m rb ab sl n [(mask.setIfInBounds i true,md,s)] k))
   | none=>(match rs with
    | [i]=>(match nth ops.toList i with
     | none=>.bad "drawn" []
     | some o=>if ni ops m md i then
       mv Z inl (still ops m md i) (slot sl rb i s.h.regs) (slot sl ab i s.h.arrs) s o ops.toList (fun s=>jh Z inl tab ops m rb ab sl n [(mask,md,s)] k) (fun s=>jh Z inl tab ops m rb ab sl n [(mask.setIfInBounds i true,AH ops m md i,s)] k)
      else .bad "drawn too late" [i])
    | rs=>(match rs.find? (fun i=>(calm Z ops.toList).and (nj tab ops m md mask i)) with
     | some i=>(match nth ops.toList i with
      | none=>.bad "drawn" []
      | some o=>uB Z s o ops.toList (fun s=>jh Z inl tab ops m rb ab sl n [(mask,md,s)] k) (fun s=>jh Z inl tab ops m rb ab sl n [(mask.setIfInBounds i true,1,s)] k))
     | none=>(match (if sl.and (calm Z ops.toList) then iD Z ops m rb ab mask md s rs ([],[]) else none) with
      | some (ns,L)=>eI s.known ns (jh Z inl tab ops m rb ab sl n L k)
      | none=>allT (rs.map fun i=>match nth ops.toList i with
       | none=>.bad "drawn" []
       | some o=>if ni ops m md i then
         mv Z inl (still ops m md i) (slot sl rb i s.h.regs) (slot sl ab i s.h.arrs) s o ops.toList (fun s=>jh Z inl tab ops m rb ab sl n [(mask,md,s)] k) (fun s=>jh Z inl tab ops m rb ab sl n [(mask.setIfInBounds i true,AH ops m md i,s)] k)
        else .bad "drawn too late" [i]))))))
 | n + 1,L,k=>(match gR Z ops m rb ab L ([],[]) with
  | some (ns,L')=>eI (match L with | (_,_,s) :: _=>s.known | []=>[]) ns (jh Z inl tab ops m rb ab sl n L' k)
  | none=>.bad "drawn many" (L.flatMap fun x=>999 :: x.2.1 :: Region.ready .any ops x.1))
def rM (ops : Array Oper) : Nat :=
 let rec go : Nat→List Oper→Nat
  | k,[]=>k
  | k,o :: l=>match o.op,l with | .store _ _ _,_=>k | .call ⟨.value _,_,_⟩,[]=>k | _,_=>go (k + 1) l
 go 0 ops.toList
def qU : List Oper→Nat
 | []=>0
 | o :: l=>(if eV o then 0 else 1) + qU l
def fq : List Nat→St→(St→Tree)→Tree
 | [],s,k=>k s
 | a :: l,s,k=>iT a s (fun s=>fq l s k)
def addN (a : Nat) (l : List Nat) : List Nat:=if nK a l then l else a :: l
def cFr (hc c : SC) (l : List Nat) : List Nat:=match hc,c with
 | .fz _ _,.sl a _=>addN a l
 | _,_=>l
def tFr : List SR→List SR→List Nat→List Nat
 | .v (.one hc) :: t,.v (.one c) :: u,l=>tFr t u (cFr hc c l)
 | _ :: t,_ :: u,l=>tFr t u l
 | _,_,l=>l
def rcFr : List SC→List SC→List Nat→List Nat
 | hc :: t,c :: u,l=>rcFr t u (cFr hc c l)
 | _,_,l=>l
def rgFr : List (Pc (List SC))→List (Pc (List SC))→List Nat→List Nat
 | .at hc :: t,.at c :: u,l=>rgFr t u (rcFr hc c l)
 | _ :: t,_ :: u,l=>rgFr t u l
 | _,_,l=>l
def uF (L : LI) (s : St) : List Nat:=rgFr L.hd.h.regs s.h.regs (tFr L.hd.tmps s.tmps [])
def kFr (k : HK) (c : SC) (l : List Nat) : List Nat:=match k,c with
 | .fz _,.sl a _=>addN a l
 | _,_=>l
def tsFr (tm : List SR) : List (Nat × HK)→List Nat→List Nat
 | [],l=>l
 | (i,k) :: m,l=>tsFr tm m (match nth tm i with | some (.v (.one c))=>kFr k c l | _=>l)
def rsFr (rg : List (Pc (List SC))) : List (Nat × Nat × HK)→List Nat→List Nat
 | [],l=>l
 | (r,o,k) :: m,l=>rsFr rg m (match nth rg r with | some (.at cs)=>(match nth cs o with | some c=>kFr k c l | none=>l) | _=>l)
def xD (H : Hint) (s : St) : List Nat:=rsFr s.h.regs H.rs (tsFr s.tmps H.ts H.fr)
def uY (Z : Cx) (r : List It→St→Tree) (fn : Func) (f : Nat) (args : List SR) (dst : Option Nat) (s : St) (next : St→Tree) : Tree :=
 match fn.body with
 | none=>.bad "no body" [f]
 | some c=>r [.code c,.fin fun t=>match lL Z.T t.h t.tmps fn.results.toList,t.stk with
   | some vals,tm :: stk=>next { t with fn:=s.fn,tmps:=gU tm dst (rG vals),stk:=stk}
   | _,_=>.bad "results walked through" [f]] { s with fn:=f,tmps:=args ++ List.replicate (fn.ntmps - args.length) (.v (.one .undef)),stk:=s.tmps :: s.stk}
def run (Z : Cx) : Nat→List It→St→Tree
 | 0,_,_=>.bad "fuel" []
 | _ + 1,[],_=>.bad "no end" []
 | _ + 1,.fin k :: _,s=>k s
 | n + 1,.blk _ :: k,s=>run Z n k s
 | n + 1,.again c :: k,s=>run Z n (.code c :: .again c :: k) s
 | _ + 1,.round L :: _,s=>fu 8 s (fun s=>fq (uF L s) s (fun s=>eI s.known (qP s.h.arrs) (za L { s with known:=dc s.known (qP s.h.arrs)})))
 | n + 1,.code c :: k,s=>(match c with
  | .skip=>run Z n k s
  | .seq a b=>run Z n (.code a :: .code b :: k) s
  | .block id b=>run Z n (.code b :: .blk id :: k) s
  | .ret=>(match rU k with | some f=>f s | none=>.bad "no end" [])
  | .exit id=>(match gw id k with | some k=>run Z n k s | none=>.bad "exit" [])
  | .cond o a b=>(match ev s.tmps o with
   | some (.v (.one (.bool c)))=>(match X.dec s.known c with
    | some true=>run Z n (.code a :: k) s
    | some false=>run Z n (.code b :: k) s
    | none=>.ite c (run Z n (.code a :: k) { s with known:=X.iG c ++ s.known}) (run Z n (.code b :: k) { s with known:=X.iG (neg c) ++ s.known}))
   | _=>.bad "cond" [])
  | .region _ ops false=>run Z n (.ops ops.toList ops.toList :: k) s
  | .region _ ops true=>if Region.noSelect ops then
    let m:=rM ops
    let sl:=Nat.blt 1 (qU ops.toList)
    let rb:=s.h.regs.length
    let ab:=s.h.arrs.length
    let s':=if sl then { s with h:={ s.h with regs:=s.h.regs ++ List.replicate ops.size .fr,arrs:=s.h.arrs ++ List.replicate ops.size .fr}} else s
    kO s.nx (fun s=>run Z n k s) (jh Z (uY Z (run Z n)) (db ops.toList) ops m rb ab sl n [(Array.replicate ops.size false,0,s')] .leaf) else .bad "a drawn order" []
  | .loop b=>(match ig b with
   | none=>.bad "loop" []
   | some r=>match sC s.fn r s.h.regs.length Z.hints with
    | none=>.bad "no hint" [s.fn,r,s.h.regs.length]
    | some H=>if H.unroll then run Z n (.code b :: .again b :: k) s else
     hZ (xD H s) s (fun s=>fu 8 s (fun s=>fq (xD H s) s (fun s=>eI s.known (qP s.h.arrs) (
      let s:={ s with known:=dc s.known (qP s.h.arrs)}
      let d0 : Hd:={ nx:=s.nx + 1,h:={ s.h with arrs:=s.h.arrs.map fun x=>match x with | .fr=>.go | x=>x},ks:=[],ok:=true}
      match xE H (wo b) 0 s.tmps d0 with
      | (tm,d1)=>match Ce H 0 s.h.regs d1 with
       | (rg,d2)=>match uZ H 0 s.h.mps d2 with
        | (mp,d3) =>
        let L : LI:={ hd:={ s with tmps:=tm,h:={ d3.h with regs:=rg,mps:=mp},nx:=d3.nx},nx0:=s.nx,r0:=s.h.regs.length,a0:=s.h.arrs.length,ks:=d3.ks}
        if (dr (X.under s.nx) s.known).and (d3.ok.and (Nat.blt s.nx d3.nx)) then
         (let S:=holds L s
          match S.no,collect S.ls (s.nx + 1) d3.ks with
         | [],some init=>.loop s.nx d3.ks init (run Z n (.code b :: .round L :: k) L.hd)
         | l,_=>.bad "loops head" (s.fn :: r :: l))
        else .bad "loops head" [s.fn,r])))))
  | _=>.bad "code" [])
 | n + 1,.ops [] _ :: k,s=>run Z n k s
 | n + 1,.ops (o :: l) all :: k,s=>mv Z (uY Z (run Z n)) false s.h.regs.length s.h.arrs.length s o all (fun s=>run Z n (.ops (o :: l) all :: k) s) (fun s=>run Z n (.ops l all :: k) s)
end Go.Sy

namespace Go.Sy
open Go.RowKit
def aI {α β : Type} (R : α→β→Prop) : List α→List β→Prop
 | [],[]=>True
 | a :: l,b :: m=>R a b∧aI R l m
 | _,_=>False
theorem aS {α : Type} : ∀ (l : List α) (i : Nat),nth l i=l[i]?
 | [],i=>by simp [nth]
 | a :: l,0=>by simp [nth]
 | a :: l,i + 1=>by simp [nth,aS l i]
theorem gS {α : Type} : ∀ (l : List α) (i : Nat) (b : α),bj l i b=l.set i b
 | [],i,b=>by simp [bj]
 | a :: l,0,b=>by simp [bj]
 | a :: l,i + 1,b=>by simp [bj,gS l i]
theorem cu {α : Type} {l : List α} {i : Nat} {a : α} (h : nth l i=some a) : i < l.length:=by
 rw [aS] at h;exact (List.getElem?_eq_some_iff.1 h).1
theorem cA {α : Type} {l : List α} {i : Nat} (h : i < l.length) : ∃ a,nth l i=some a:=⟨l[i],by rw [aS];exact List.getElem?_eq_getElem h⟩
theorem dk {α : Type} {l : List α} {i : Nat} (h : l.length≤i) : nth l i=none:=by rw [aS];exact List.getElem?_eq_none h
theorem cF {α : Type} (l : List α) (i : Nat) (b : α) : (bj l i b).length=l.length:=by rw [gS];simp
theorem aQ {α : Type} (l : List α) (i j : Nat) (b : α) : nth (bj l i b) j=if i=j then (if i < l.length then some b else none) else nth l j:=by
 rw [gS,aS,aS,List.getElem?_set]
theorem eC {α : Type} (l m : List α) (i : Nat) : nth (l ++ m) i=if i < l.length then nth l i else nth m (i - l.length):=by
 simp only [aS,List.getElem?_append]
theorem r9 {α : Type} (l : List α) (a : α) (i : Nat) : nth (l ++ [a]) i=if i < l.length then nth l i else if i=l.length then some a else none:=by
 rw [eC]
 split
 ·rfl
 ·split
  ·rename_i h;subst h;simp [nth]
  ·rename_i h1 h2
   have : i - l.length=(i - l.length - 1) + 1:=by omega
   rw [this];simp [nth]
theorem aI.length {α β : Type} {R : α→β→Prop} : ∀ {l : List α} {m : List β},aI R l m→l.length=m.length
 | [],[],_=>rfl
 | _ :: _,_ :: _,h=>by simp [aI.length h.2]
 | [],_ :: _,h=>h.elim
 | _ :: _,[],h=>h.elim
theorem aI.nth {α β : Type} {R : α→β→Prop} : ∀ {l : List α} {m : List β} {i : Nat} {a : α},aI R l m→nth l i=some a→∃ b,Sy.nth m i=some b∧R a b
 | [],_,_,_,_,e=>by simp [Sy.nth] at e
 | _ :: _,b :: m,0,a,h,e=>by simp [Sy.nth] at e;subst e;exact ⟨b,rfl,h.1⟩
 | _ :: _,_ :: m,i + 1,a,h,e=>by simp only [Sy.nth] at e ⊢;exact aI.nth h.2 e
 | _ :: _,[],_,_,h,_=>h.elim
theorem aI.of {α β : Type} {R : α→β→Prop} : ∀ {l : List α} {m : List β},l.length=m.length→(∀ i a b,Sy.nth l i=some a→Sy.nth m i=some b→R a b)→aI R l m
 | [],[],_,_=>trivial
 | a :: l,b :: m,h,f=>⟨f 0 a b rfl rfl,aI.of (by simpa using h) fun i x y hx hy=>f (i + 1) x y hx hy⟩
 | [],_ :: _,h,_=>by simp at h
 | _ :: _,[],h,_=>by simp at h
theorem aI.mono {α β : Type} {R S : α→β→Prop} : ∀ {l : List α} {m : List β},aI R l m→(∀ a b,R a b→S a b)→aI S l m
 | [],[],_,_=>trivial
 | _ :: _,_ :: _,h,f=>⟨f _ _ h.1,aI.mono h.2 f⟩
 | [],_ :: _,h,_=>h.elim
 | _ :: _,[],h,_=>h.elim
theorem aI.imp {α β : Type} {R S : α→β→Prop} : ∀ {l : List α} {m : List β},aI R l m→(∀ x∈l,∀ b,R x b→S x b)→aI S l m
 | [],[],_,_=>trivial
 | x :: _,_ :: _,h,f=>⟨f x (by simp) _ h.1,aI.imp h.2 fun y hy b=>f y (by simp [hy]) b⟩
 | [],_ :: _,h,_=>h.elim
 | _ :: _,[],h,_=>h.elim
theorem dQ {α : Type} {f : α→Bool} : ∀ {l : List α},dr f l=true→∀ x∈l,f x=true
 | [],_,_,hx=>by simp at hx
 | b :: l,h,x,hx=>by
  simp only [dr,Bool.and_eq_true] at h
  rcases List.mem_cons.1 hx with e | hx
  ·subst e;exact h.1
  ·exact dQ h.2 x hx
theorem uN {α : Type} {l : List α} {i : Nat} {x : α} (e : nth l i=some x) : x∈l:=by rw [aS] at e;exact List.mem_of_getElem? e
theorem dP {α : Type} {f : α→Bool} {l : List α} (h : dr f l=true) {i : Nat} {x : α} (e : nth l i=some x) : f x=true:=dQ h x (uN e)
theorem jA {α : Type} : ∀ (m l : List α) (o i : Nat),o + m.length≤l.length→nth (cq l o m) i=if o≤i∧i < o + m.length then nth m (i - o) else nth l i
 | [],l,o,i,_=>by
  cases l <;> simp only [cq] <;> rw [if_neg (by simp)]
 | c :: m,l,o,i,h=>by
  have hp : cq l o (c :: m)=cq (bj l o c) (o + 1) m:=by cases l <;> rfl
  simp only [List.length_cons] at h
  rw [hp,jA m (bj l o c) (o + 1) i (by rw [cF];omega),aQ]
  by_cases h1 : i=o
  ·subst h1
   rw [if_neg (by omega),if_pos rfl,if_pos (by omega),if_pos (by simp)]
   simp [nth]
  ·by_cases h2 : o + 1≤i∧i < o + 1 + m.length
   ·rw [if_pos h2,if_pos (by simp;omega)]
    have : i - o=(i - (o + 1)) + 1:=by omega
    rw [this];rfl
   ·rw [if_neg h2,if_neg (by omega),if_neg (by simp;omega)]
theorem fa {α : Type} : ∀ (m l : List α) (o : Nat),(cq l o m).length=l.length
 | [],l,o=>by cases l <;> rfl
 | c :: m,l,o=>by
  have hp : cq l o (c :: m)=cq (bj l o c) (o + 1) m:=by cases l <;> rfl
  rw [hp,fa m,cF]
theorem iA {α : Type} {l m : List α} {o n : Nat} (h : eR l o n=some m) : m.length=n∧(0 < n→o + n≤l.length)∧∀ j,j < n→nth m j=nth l (o + j):=by
 simp only [eR] at h
 split at h
 ·rename_i hl
  cases h
  have hl:=Nat.eq_of_beq_eq_true hl
  refine ⟨hl,fun hn=>?_,fun j hj=>?_⟩
  ·rw [List.length_take,List.length_drop] at hl
   omega
  ·rw [aS,aS,List.getElem?_take,if_pos hj,List.getElem?_drop]
 ·cases h
theorem xa {α : Type} (l : List α) (o j : Nat) : nth (l.drop o) j=nth l (o + j):=by rw [aS,aS,List.getElem?_drop]
theorem w9 {α : Type} (l : List α) (o j : Nat) : nth (l.take o) j=if j < o then nth l j else none:=by rw [aS,aS,List.getElem?_take]
theorem dH (b o k : Nat) : (⟨b,o,none⟩ : Addr).add k=⟨b,o + k,none⟩:=by
 unfold Addr.add;split
 ·rename_i h;subst h;rfl
 ·rfl
def SC.is (E : Env) (p : Pl) (g : Gm) : SC→Value→Prop
 | .any,_=>True
 | .undef,v=>v=Go.undef
 | .int k x,v=>∃ n,x.den E=.i n∧v=.int k n
 | .bool x,v=>∃ b,x.den E=.b b∧v=.bool b
 | .str x,v=>∃ s : ByteArray,x.den E=.s s.data.toList∧v=.string s
 | .fz K x,v=>Rd g (.sl K.by_ K.kd) v (x.den E)
 | .fp K x i o,v=>∃ (b q n : Nat) (row : List CD),v=.pointer (some ⟨b,q,none⟩)∧i.den E=.i n∧(x.den E).rows[n]?=some row∧row.length=K.kd.length∧aM g (K.kd.drop o) (fun j=>g b (q + j)) (row.drop o)
 | .sl a n,v=>∃ (A : Option Addr) (c m : Nat),p.arr a=some (A,c)∧n.den E=.i m∧m≤c∧v=.slice A m c
 | .sub a z i n,v=>∃ (A : Option Addr) (c k m : Nat),p.arr a=some (A,c)∧i.den E=.i k∧n.den E=.i m∧k + m≤c∧v=.slice (if c=k then A else A.map (·.add (k * z))) m (c - k)
 | .ep a z i o,v=>∃ b c n : Nat,p.arr a=some (some ⟨b,0,none⟩,c)∧i.den E=.i n∧v=.pointer (some ⟨b,n * z + o,none⟩)
 | .loc r o,v=>∃ b q,p.reg r=some (b,q)∧v=.pointer (some ⟨b,q + o,none⟩)
 | .nilsl,v=>v=.slice none 0 0
 | .z0,v=>∃ A,v=.slice A 0 0
 | .nilp,v=>v=.pointer none
 | .nilmap,v=>v=.map none
 | .mp a,v=>∃ b,p.mp a=some b∧v=.map (some b)
 | .fn f caps,v=>∃ vs : List Value,v=.func (.func f) #[] vs.toArray∧aI (fun (x : Nat × Nat) u=>∃ b q,p.reg x.1=some (b,q)∧u=.pointer (some ⟨b,q + x.2,none⟩)) caps vs
def SV.is (E : Env) (p : Pl) (g : Gm) (x : SV) (v : Value) : Prop:=match x with
 | .one c=>c.is E p g v
 | .agg l=>∃ vs : List Value,v=.agg vs.toArray∧aI (SC.is E p g) l vs
def SR.is (E : Env) (p : Pl) (g : Gm) (x : SR) (v : Value) : Prop:=match x with
 | .v x=>x.is E p g v
 | .tup l=>∃ vs : List Value,v=.tuple vs.toArray∧aI (SV.is E p g) l vs
theorem s9.mono {g g' : Gm} (h : g.Le g') {v : Value} {d : CD} (hr : s9 g v d) : s9 g' v d:=by
 cases d with
 | l rows =>
  obtain ⟨A,c,e,h1,h2,h3,h4⟩:=hr
  refine ⟨A,c,e,h1,h2,h3,fun h0=>?_⟩
  obtain ⟨b,q,e2,h5⟩:=h4 h0
  refine ⟨b,q,e2,fun i row hi=>?_⟩
  obtain ⟨k,e3,h6⟩:=h5 i row hi
  exact ⟨k,e3,h _ _ _ h6⟩
 | _=>exact hr
mutual
theorem Rd.mono {g g' : Gm} (h : g.Le g') : ∀ (k : Kd) (v : Value) (d : CD),Rd g k v d→Rd g' k v d
 | .int _,_,_,hr=>hr
 | .bool,_,_,hr=>hr
 | .str,_,_,hr=>hr
 | .os _,v,d,hr=>s9.mono h hr
 | .sl by_ kd,v,d,hr=>by
  simp only [Rd] at hr ⊢
  obtain ⟨A,n,c,rows,e1,e2,e3,h1,h2,h3,h4⟩:=hr
  refine ⟨A,n,c,rows,e1,e2,e3,h1,h2,h3,fun hn=>?_⟩
  obtain ⟨b,q,e,hrow⟩:=h4 hn
  exact ⟨b,q,e,fun i row hi=>aM.mono h kd _ _ row (fun j v hv=>h _ _ _ hv) (hrow i row hi)⟩
theorem aM.mono {g g' : Gm} (h : g.Le g') : ∀ (kd : List Kd) (f f' : Nat→Option Value) (row : List CD),(∀ j v,f j=some v→f' j=some v)→aM g kd f row→aM g' kd f' row
 | [],_,_,[],_,_=>trivial
 | k :: ks,f,f',d :: ds,hf,⟨⟨v,hv,hr⟩,hrest⟩=>⟨⟨v,hf 0 v hv,Rd.mono h k v d hr⟩,aM.mono h ks (fun j=>f (j + 1)) (fun j=>f' (j + 1)) ds (fun j v hv=>hf (j + 1) v hv) hrest⟩
 | [],_,_,_ :: _,_,hr=>hr.elim
 | _ :: _,_,_,[],_,hr=>hr.elim
end
theorem aM.length {g : Gm} : ∀ {kd : List Kd} {f : Nat→Option Value} {row : List CD},aM g kd f row→row.length=kd.length
 | [],_,[],_=>rfl
 | _ :: _,_,_ :: _,h=>by simp only [List.length_cons];rw [aM.length h.2]
 | [],_,_ :: _,hr=>hr.elim
 | _ :: _,_,[],hr=>hr.elim
theorem aM.cell {g : Gm} : ∀ {kd : List Kd} {f : Nat→Option Value} {row : List CD},aM g kd f row→∀ {j : Nat} {k : Kd},kd[j]?=some k→∃ v,f j=some v∧Rd g k v (row.getD j .u)
 | k :: ks,f,d :: ds,h,0,_,e=>by
  simp only [List.getElem?_cons_zero,Option.some.injEq] at e
  subst e
  obtain ⟨⟨v,h1,h2⟩,_⟩:=h
  exact ⟨v,h1,by simpa using h2⟩
 | k :: ks,f,d :: ds,h,j + 1,k',e=>by
  obtain ⟨v,h1,h2⟩:=aM.cell h.2 (j:=j) (k:=k') (by simpa using e)
  exact ⟨v,h1,by simpa using h2⟩
 | [],_,_,_,j,_,e=>by simp at e
 | _ :: _,_,[],h,_,_,_=>h.elim
theorem aM.of {g : Gm} : ∀ {kd : List Kd} {f : Nat→Option Value} {row : List CD},row.length=kd.length→(∀ j k,kd[j]?=some k→∃ v,f j=some v∧Rd g k v (row.getD j .u))→aM g kd f row
 | [],_,[],_,_=>trivial
 | k :: ks,f,d :: ds,hl,h=>⟨by
   obtain ⟨v,h1,h2⟩:=h 0 k rfl
   exact ⟨v,h1,by simpa using h2⟩,aM.of (by simpa using hl) fun j k' e=>by
   obtain ⟨v,h1,h2⟩:=h (j + 1) k' (by simpa using e)
   exact ⟨v,h1,by simpa using h2⟩⟩
 | [],_,_ :: _,hl,_=>by simp at hl
 | _ :: _,_,[],hl,_=>by simp at hl
theorem aM.drop {g : Gm} {kd : List Kd} {f : Nat→Option Value} {row : List CD} (h : aM g kd f row) (o : Nat) : aM g (kd.drop o) (fun j=>f (o + j)) (row.drop o):=by
 refine aM.of (by simp [h.length]) fun j k e=>?_
 obtain ⟨v,h1,h2⟩:=h.cell (j:=o + j) (k:=k) (by rw [List.getElem?_drop] at e;exact e)
 refine ⟨v,h1,?_⟩
 simpa [List.getD_eq_getElem?_getD,List.getElem?_drop] using h2
theorem SC.is_le {E : Env} {p q : Pl} {g g' : Gm} (hp : p.Le q) (hg : g.Le g') {c : SC} {v : Value} (h : c.is E p g v) : c.is E q g' v:=by
 cases c with
 | fz K x=>exact Rd.mono hg _ _ _ h
 | fp K x i o =>
  obtain ⟨b,q',n,row,h1,h2,h3,h4,h5⟩:=h
  exact ⟨b,q',n,row,h1,h2,h3,h4,aM.mono hg _ _ _ _ (fun j v hv=>hg _ _ _ hv) h5⟩
 | sl a n =>
  obtain ⟨A,c,m,h1,h2⟩:=h
  exact ⟨A,c,m,hp.arr _ _ h1,h2⟩
 | sub a z i n =>
  obtain ⟨A,c,k,m,h1,h2⟩:=h
  exact ⟨A,c,k,m,hp.arr _ _ h1,h2⟩
 | ep a z i o =>
  obtain ⟨b,c,n,h1,h2⟩:=h
  exact ⟨b,c,n,hp.arr _ _ h1,h2⟩
 | loc r o =>
  obtain ⟨b,q',h1,h2⟩:=h
  exact ⟨b,q',hp.reg _ _ h1,h2⟩
 | mp a =>
  obtain ⟨b,h1,h2⟩:=h
  exact ⟨b,hp.mp _ _ h1,h2⟩
 | fn f caps =>
  obtain ⟨vs,h1,h2⟩:=h
  exact ⟨vs,h1,h2.mono fun x u ⟨b,q',h3,h4⟩=>⟨b,q',hp.reg _ _ h3,h4⟩⟩
 | _=>exact h
theorem SV.is_le {E : Env} {p q : Pl} {g g' : Gm} (hp : p.Le q) (hg : g.Le g') {c : SV} {v : Value} (h : c.is E p g v) : c.is E q g' v:=by
 cases c with
 | one c=>exact SC.is_le hp hg h
 | agg l=>obtain ⟨vs,e,hv⟩:=h;exact ⟨vs,e,hv.mono fun _ _=>SC.is_le hp hg⟩
theorem SR.is_le {E : Env} {p q : Pl} {g g' : Gm} (hp : p.Le q) (hg : g.Le g') {c : SR} {v : Value} (h : c.is E p g v) : c.is E q g' v:=by
 cases c with
 | v c=>exact SV.is_le hp hg h
 | tup l=>obtain ⟨vs,e,hv⟩:=h;exact ⟨vs,e,hv.mono fun _ _=>SV.is_le hp hg⟩
theorem SC.et {E F : Env} {n : Nat} (hE : E.bV n F) {p : Pl} {g : Gm} {c : SC} {v : Value} (u : c.under n=true) (h : c.is E p g v) : c.is F p g v:=by
 cases c <;> simp only [SC.under,Bool.and_eq_true] at u <;> simp only [SC.is] at h ⊢ <;> first
  | exact h
  | (rw [← X.dq hE u];exact h)
  | (rw [← X.dq hE u.1,← X.dq hE u.2];exact h)
theorem SV.et {E F : Env} {n : Nat} (hE : E.bV n F) {p : Pl} {g : Gm} {c : SV} {v : Value} (u : c.under n=true) (h : c.is E p g v) : c.is F p g v:=by
 cases c with
 | one c=>exact SC.et hE u h
 | agg l=>obtain ⟨vs,e,hv⟩:=h;exact ⟨vs,e,hv.imp fun x hx b hb=>SC.et hE (dQ u x hx) hb⟩
theorem SR.et {E F : Env} {n : Nat} (hE : E.bV n F) {p : Pl} {g : Gm} {c : SR} {v : Value} (u : c.under n=true) (h : c.is E p g v) : c.is F p g v:=by
 cases c with
 | v c=>exact SV.et hE u h
 | tup l=>obtain ⟨vs,e,hv⟩:=h;exact ⟨vs,e,hv.imp fun x hx b hb=>SV.et hE (dQ u x hx) hb⟩
def ew (m : Nat→Prop) (o o' : Obj) : Prop:=match o with
 | .cells c e f=>∃ c',o'=.cells c' e f∧c'.size=c.size∧∀ i,¬ m i→c'[i]?=c[i]?
 | o=>o'=o
theorem ew.refl (m : Nat→Prop) (o : Obj) : ew m o o:=by
 cases o <;> first | exact rfl | exact ⟨_,rfl,rfl,fun _ _=>rfl⟩
theorem ew.trans {m n : Nat→Prop} {a b c : Obj} (h : ew m a b) (k : ew n b c) : ew (fun i=>m i∨n i) a c:=by
 cases a with
 | cells ca e f =>
  obtain ⟨cb,rfl,h1,h2⟩:=h
  obtain ⟨cc,rfl,h3,h4⟩:=k
  exact ⟨cc,rfl,h3.trans h1,fun i hi=>(h4 i fun x=>hi (.inr x)).trans (h2 i fun x=>hi (.inl x))⟩
 | _=>simp only [ew] at h;subst h;simpa only [ew] using k
theorem ew.mono {m n : Nat→Prop} {a b : Obj} (h : ew m a b) (hm : ∀ i,m i→n i) : ew n a b:=by
 cases a with
 | cells ca e f =>
  obtain ⟨cb,rfl,h1,h2⟩:=h
  exact ⟨cb,rfl,h1,fun i hi=>h2 i fun x=>hi (hm i x)⟩
 | _=>exact h
theorem ew.none {m : Nat→Prop} {a b : Obj} (h : ew m a b) (hm : ∀ i,¬ m i) : b=a:=by
 cases a with
 | cells ca e f =>
  obtain ⟨cb,rfl,h1,h2⟩:=h
  congr 1
  exact Array.ext_getElem? fun i=>h2 i (hm i)
 | _=>exact h
structure bX (Mc : Nat→Nat→Prop) (w w' : World) : Prop where
 os : w'.os=w.os
 tape : w'.tape=w.tape
 output : w'.output=w.output
 size : w.heap.size≤w'.heap.size
 obj : ∀ k o,w.heap[k]?=some o→∃ o',w'.heap[k]?=some o'∧ew (Mc k) o o'
theorem lt_of_block {w : World} {k : Nat} {o : Obj} (h : w.heap[k]?=some o) : k < w.heap.size:=by
 rcases Nat.lt_or_ge k w.heap.size with hl | hg
 ·exact hl
 ·rw [Array.getElem?_eq_none hg] at h;cases h
theorem eP {w : World} {k : Nat} (h : k < w.heap.size) : ∃ o,w.heap[k]?=some o:=⟨w.heap[k],Array.getElem?_eq_getElem h⟩
theorem tO {w : World} {k i : Nat} {v : Value} (h : w.cell? ⟨k,i,none⟩=some v) : k < w.heap.size:=by
 cases hb : w.heap[k]? with
 | none=>simp [World.cell?,hb] at h
 | some o=>exact lt_of_block hb
section
variable {Mc Nc : Nat→Nat→Prop} {w w' w'' : World}
theorem bX.refl (Mc : Nat→Nat→Prop) (w : World) : bX Mc w w:=⟨rfl,rfl,rfl,Nat.le_refl _,fun _ o h=>⟨o,h,ew.refl _ _⟩⟩
theorem bX.trans (h : bX Mc w w') (k : bX Nc w' w'') : bX (fun b i=>Mc b i∨Nc b i) w w'' :=
 ⟨k.os.trans h.os,k.tape.trans h.tape,k.output.trans h.output,Nat.le_trans h.size k.size,fun b o hb=>by
  obtain ⟨o1,h1,h2⟩:=h.obj b o hb
  obtain ⟨o2,h3,h4⟩:=k.obj b o1 h1
  exact ⟨o2,h3,h2.trans h4⟩⟩
theorem bX.mono (h : bX Mc w w') (hm : ∀ k i,k < w.heap.size→Mc k i→Nc k i) : bX Nc w w' :=
 ⟨h.os,h.tape,h.output,h.size,fun k o hk=>by
  obtain ⟨o1,h1,h2⟩:=h.obj k o hk
  exact ⟨o1,h1,h2.mono fun i=>hm k i (lt_of_block hk)⟩⟩
theorem bX.jz (h : Below w.heap.size w w') : bX Mc w w' :=
 ⟨h.os,h.tape,h.output,h.size,fun k o hk=>⟨o,(h.block k (lt_of_block hk)).trans hk,ew.refl _ _⟩⟩
theorem bX.below (h : bX Mc w w') (hm : ∀ k i,¬ Mc k i) : Below w.heap.size w w' :=
 ⟨h.os,h.tape,h.output,h.size,fun k hk=>by
  obtain ⟨o,ho⟩:=eP hk
  obtain ⟨o1,h1,h2⟩:=h.obj k o ho
  rw [h1,h2.none (hm k),ho]⟩
theorem bX.block (h : bX Mc w w') {k : Nat} {o : Obj} (hk : w.heap[k]?=some o) (hm : ∀ i,¬ Mc k i) : w'.heap[k]?=some o:=by
 obtain ⟨o1,h1,h2⟩:=h.obj k o hk
 rw [h1,h2.none hm]
theorem bX.cell (h : bX Mc w w') {k i : Nat} (hk : k < w.heap.size) (hm : ¬ Mc k i) : w'.cell? ⟨k,i,none⟩=w.cell? ⟨k,i,none⟩:=by
 obtain ⟨o,ho⟩:=eP hk
 obtain ⟨o1,h1,h2⟩:=h.obj k o ho
 cases o with
 | cells c e f =>
  obtain ⟨c',rfl,h3,h4⟩:=h2
  simp only [World.cell?,ho,h1]
  simpa using h4 i hm
 | _=>simp only [ew] at h2;subst h2;simp only [World.cell?,ho,h1]
theorem bX.isSome (h : bX Mc w w') {k i : Nat} (hk : (w.cell? ⟨k,i,none⟩).isSome=true) : (w'.cell? ⟨k,i,none⟩).isSome=true:=by
 cases hb : w.heap[k]? with
 | none=>simp [World.cell?,hb] at hk
 | some o =>
  obtain ⟨o1,h1,h2⟩:=h.obj k o hb
  cases o with
  | cells c e f =>
   obtain ⟨c',rfl,h3,h4⟩:=h2
   simp only [World.cell?,hb] at hk
   simp only [World.cell?,h1]
   simpa [h3] using hk
  | _=>simp [World.cell?,hb] at hk
theorem bX.frozen (h : bX Mc w w') {k : Nat} (hk : k < w.heap.size) (i : Nat) : w'.frozen? ⟨k,i,none⟩=w.frozen? ⟨k,i,none⟩:=by
 obtain ⟨o,ho⟩:=eP hk
 obtain ⟨o1,h1,h2⟩:=h.obj k o ho
 cases o with
 | cells c e f =>
  obtain ⟨c',rfl,h3,h4⟩:=h2
  simp only [World.frozen?,ho,h1]
 | _=>simp only [ew] at h2;subst h2;simp only [World.frozen?,ho,h1]
end
structure cI where
 w0 : World
 M : Nat→Nat→Prop
 g0 : Gm
 r0 : Nat→Option (Nat × Nat)
def cI.wr (B : cI) (k i : Nat) : Prop:=B.M k i∨B.w0.heap.size≤k
structure jS (B : cI) (E : Env) (p : Pl) (g : Gm) (r : Nat) (cs : List SC) (w : World) : Prop where
 ex : ∃ b q,p.reg r=some (b,q)∧p.ow b=.reg r∧b < w.heap.size∧∀ o c,nth cs o=some c →
  B.wr b (q + o)∧w.frozen? ⟨b,q + o,none⟩=false∧∃ v,w.cell? ⟨b,q + o,none⟩=some v∧c.is E p g v
def nI (B : cI) (p : Pl) (g : Gm) (o : Ow) (e : Nat) (K : SK) (ad : Option Addr) (cap : Nat) (rows : List (List CD)) (w : World) : Prop :=
 rows.length≤cap∧cap≤maxLen∧rows.length * K.by_≤B47∧0 < K.kd.length∧0 < K.by_ ∧
  (0 < cap→∃ b cur,ad=some ⟨b,0,none⟩∧p.ow b=o∧w.heap[b]?=some (.cells cur e (0,0))∧cur.size=cap * K.kd.length∧(∀ i,i < cur.size→B.wr b i) ∧
   ∀ i row,rows[i]?=some row→aM g K.kd (fun j=>cur[i * K.kd.length + j]?) row)
def gM (B : cI) (p : Pl) (g : Gm) (a i j e : Nat) (w : World) (v : Value) : CD→Prop
 | .l _=>True
 | .o rows=>∃ ad cap,v=.slice ad rows.length cap∧nI B p g (.nst a i j) e qZ ad cap rows w
 | .h s n=>∃ ad cap,p.arr s=some (ad,cap)∧n≤cap∧v=.slice ad n cap
 | _=>False
def NsOk (B : cI) (E : Env) (p : Pl) (g : Gm) (a : Nat) (A : Ar) (w : World) : Prop:=∀ (j e b c : Nat) (rows : List (List CD)),A.K.kd[j]?=some (.os e)→p.arr a=some (some ⟨b,0,none⟩,c)→A.x.den E=.l rows→∀ i row v,rows[i]?=some row→w.cell? ⟨b,i * A.K.kd.length + j,none⟩=some v→gM B p g a i j e w v (row.getD j .u)
structure kr (B : cI) (E : Env) (p : Pl) (g : Gm) (a : Nat) (A : Ar) (w : World) : Prop where
 ex : ∃ (ad : Option Addr) (cap : Nat) (rows : List (List CD)),p.arr a=some (ad,cap)∧A.x.den E=.l rows∧rows.length≤cap∧cap≤maxLen∧rows.length * A.K.by_≤B47∧0 < A.K.kd.length∧0 < A.K.by_ ∧
  (0 < cap→∃ b cur,ad=some ⟨b,0,none⟩∧p.ow b=.arr a∧w.heap[b]?=some (.cells cur A.e (0,0))∧cur.size=cap * A.K.kd.length∧(∀ i,i < cur.size→B.wr b i) ∧
   ∀ i row,rows[i]?=some row→aM g A.K.kd (fun j=>cur[i * A.K.kd.length + j]?) row)
 ns : NsOk B E p g a A w
def vof (agg : Bool) (l : List Value) : Value:=if agg then .agg l.toArray else l.headD Go.undef
def cN : Kd→Value→CD→Prop
 | .int k,v,d=>∃ n,v=.int k n∧d=.i n
 | .bool,v,d=>∃ b,v=.bool b∧d=.b b
 | _,_,_=>False
def aV : List Kd→List Value→List CD→Prop
 | [],[],[]=>True
 | k :: ks,v :: vs,d :: ds=>cN k v d∧aV ks vs ds
 | _,_,_=>False
structure te (kk : List Kd) (agg : Bool) (vk : Kd) (e : MapEntry) (x : List CD × CD) : Prop where
 key : ∃ vs,e.key=vof agg vs∧aV kk vs x.1
 val : cN vk e.val x.2
def fw (rows : List (List CD)) (k : List CD) (n : Nat) : Option CD:=(CD.find rows k n).map fun r=>r.getD n .u
def pL (kk : List Kd) (agg : Bool) (vk : Kd) (es : List MapEntry) (rows : List (List CD)) : Prop :=
 ∃ ents,aI (te kk agg vk) es ents∧(∀ row∈rows,∃ vs,aV (kk ++ [vk]) vs row)∧(∀ x∈ents,fw rows x.1 kk.length=some x.2) ∧
  (∀ vs k,aV kk vs k→(∀ x∈ents,x.1≠k)→fw rows k kk.length=none)∧ents.Pairwise fun x y=>x.1≠y.1
def MpOk (B : cI) (E : Env) (p : Pl) (a : Nat) (M : Mp) (w : World) : Prop :=
 ∃ b es clock rows,p.mp a=some b∧p.ow b=.mp a∧B.w0.heap.size≤b∧w.heap[b]?=some (.map es clock)∧M.x.den E=.l rows∧pL M.kk M.agg M.vk es.toList rows
structure jT (B : cI) (E : Env) (p : Pl) (mps : List (Pc Mp)) (w : World) : Prop where
 at_ : ∀ a M,nth mps a=some (.at M)→MpOk B E p a M w
 free : ∀ a,mps.length≤a→p.mp a=none
structure bn (B : cI) (E : Env) (p : Pl) (g : Gm) (h : Hp) (w : World) : Prop where
 fr : bX B.M B.w0 w
 g0 : B.g0.Le g
 g1 : ∀ k o v,g k o=some v→B.g0 k o=some v∨B.wr k o
 gg : ∀ k o v,g k o=some v→w.cell? ⟨k,o,none⟩=some v∧p.ow k=.z
 reg : ∀ r cs,nth h.regs r=some (.at cs)→jS B E p g r cs w
 rfree : ∀ r,nth h.regs r=none∨nth h.regs r=some .fr→p.reg r=none
 arr : ∀ a A,nth h.arrs a=some (.at A)→kr B E p g a A w
 afree : ∀ a,nth h.arrs a=none∨nth h.arrs a=some .fr→p.arr a=none
 mm : jT B E p h.mps w
 nz : ∀ k a,(p.ow k).ofA a→k < w.heap.size
def Kn (E : Env) (p : Pl) (h : Hp) (k i : Nat) : Prop :=
 p.ow k=.z∨(∃ r cs b q,nth h.regs r=some (.at cs)∧p.reg r=some (b,q)∧k=b∧q≤i∧i < q + cs.length) ∨
  (∃ a A b c,nth h.arrs a=some (.at A)∧p.arr a=some (some ⟨b,0,none⟩,c)∧k=b∧i < (A.x.den E).rows.length * A.K.kd.length)
structure cy (E : Env) (p : Pl) (g : Gm) (tmps : List SR) (a : Act) : Prop where
 defers : a.defers=[]
 size : a.tmps.size=tmps.length
 tmp : ∀ i c,nth tmps i=some c→c.is E p g (a.tmps.getD i Go.undef)
structure Rep (B : cI) (E : Env) (p : Pl) (g : Gm) (s : St) (a : Act) (as : List Act) (w : World) : Prop where
 mem : bn B E p g s.h w
 frame : cy E p g s.tmps a
 stk : aI (cy E p g) s.stk as
 known : ∀ b∈s.known,(b.den E).bool=true
 fU : ∀ i x,B.r0 i=some x→p.reg i=some x
section
variable {B : cI} {E F : Env} {p q : Pl} {g g' : Gm} {h : Hp} {w w' : World} {Mc : Nat→Nat→Prop}
theorem cy.le {t : List SR} {a : Act} (h : cy E p g t a) (hp : p.Le q) (hg : g.Le g') : cy E q g' t a:=⟨h.defers,h.size,fun i c hc=>SR.is_le hp hg (h.tmp i c hc)⟩
theorem cy.gL {n : Nat} {t : List SR} {a : Act} (h : cy E p g t a) (hE : E.bV n F) (u : dr (SR.under n) t=true) : cy F p g t a:=⟨h.defers,h.size,fun i c hc=>SR.et hE (dP u hc) (h.tmp i c hc)⟩
theorem jS.cX {r : Nat} {cs : List SC} (R : jS B E p g r cs w) (T : bX Mc w w') (hm : ∀ b q o,p.reg r=some (b,q)→o < cs.length→¬ Mc b (q + o)) (hp : p.Le q) (hg : g.Le g') (ho : ∀ b q',p.reg r=some (b,q')→q.ow b=.reg r) : jS B E q g' r cs w':=by
 obtain ⟨b,q',h1,h2,h3,h4⟩:=R.ex
 refine ⟨b,q',hp.reg _ _ h1,ho b q' h1,Nat.lt_of_lt_of_le h3 T.size,fun o c hc=>?_⟩
 obtain ⟨k1,k2,v,k3,k4⟩:=h4 o c hc
 exact ⟨k1,(T.frozen h3 _).trans k2,v,(T.cell h3 (hm b q' o h1 (cu hc))).trans k3,SC.is_le hp hg k4⟩
theorem nI.cX {o o' : Ow} {e : Nat} {K : SK} {ad : Option Addr} {cap : Nat} {rows : List (List CD)} (R : nI B p g o e K ad cap rows w) (T : bX Mc w w') (hm : ∀ b i,b < w.heap.size→p.ow b=o→¬ Mc b i) (hg : g.Le g') (ho : ∀ b,b < w.heap.size→p.ow b=o→q.ow b=o') : nI B q g' o' e K ad cap rows w':=by
 obtain ⟨h3,h4,h5,h6,h7,h8⟩:=R
 refine ⟨h3,h4,h5,h6,h7,fun hc=>?_⟩
 obtain ⟨b,cur,e,k1,k2,k3,k4,k5⟩:=h8 hc
 exact ⟨b,cur,e,ho b (lt_of_block k2) k1,T.block k2 fun i=>hm b i (lt_of_block k2) k1,k3,k4,fun i row hi=>aM.mono hg _ _ _ _ (fun _ _ hv=>hv) (k5 i row hi)⟩
theorem gM.cX {a i j a' i' e : Nat} {v : Value} {d : CD} (R : gM B p g a i j e w v d) (T : bX Mc w w') (hm : ∀ b k,b < w.heap.size→p.ow b=.nst a i j→¬ Mc b k) (hp : p.Le q) (hg : g.Le g') (ho : ∀ b,b < w.heap.size→p.ow b=.nst a i j→q.ow b=.nst a' i' j) : gM B q g' a' i' j e w' v d:=by
 cases d with
 | o r =>
  obtain ⟨ad,cap,e1,e2⟩:=R
  exact ⟨ad,cap,e1,e2.cX T hm hg ho⟩
 | h s n =>
  obtain ⟨ad,cap,e1,e2⟩:=R
  exact ⟨ad,cap,hp.arr _ _ e1,e2⟩
 | l r=>trivial
 | _=>exact R.elim
theorem kr.uP {a : Nat} {A : Ar} (R : kr B E p g a A w) {b c : Nat} (h1 : p.arr a=some (some ⟨b,0,none⟩,c)) {rows : List (List CD)} (h2 : A.x.den E=.l rows) {i : Nat} {row : List CD} (hi : rows[i]?=some row) : b < w.heap.size∧p.ow b=.arr a∧0 < c:=by
 obtain ⟨ad,cap,rows',e1,e2,e3,e4,e5,e6,e7,e8⟩:=R.ex
 rw [h1] at e1;cases e1
 rw [h2] at e2;cases e2
 have:=(List.getElem?_eq_some_iff.1 hi).1
 obtain ⟨b',cur,f1,f2,f3,_⟩:=e8 (by omega)
 cases f1
 exact ⟨lt_of_block f3,f2,by omega⟩
theorem kr.cX {a : Nat} {A : Ar} (R : kr B E p g a A w) (T : bX Mc w w') (hm : ∀ b i,b < w.heap.size→(p.ow b).ofA a→¬ Mc b i) (hp : p.Le q) (hg : g.Le g') (ho : ∀ b,b < w.heap.size→(p.ow b).ofA a→q.ow b=p.ow b) : kr B E q g' a A w':=by
 refine ⟨?_,fun j e b c rows k1 k2 k3 i row v k4 k5=>?_⟩
 ·obtain ⟨ad,cap,rows,h1,h2,h3⟩:=R.ex
  exact ⟨ad,cap,rows,hp.arr _ _ h1,h2,nI.cX (o:=.arr a) (o':=.arr a) h3 T (fun b i hb hw=>hm b i hb (by rw [hw];rfl)) hg fun b hb hw=>(ho b hb (by rw [hw];rfl)).trans hw⟩
 ·have k2' : p.arr a=some (some ⟨b,0,none⟩,c):=by
   obtain ⟨ad,cap,rows,h1,_⟩:=R.ex
   rw [hp.arr _ _ h1] at k2
   rw [h1];exact k2
  obtain ⟨m1,m2,_⟩:=R.uP k2' k3 k4
  rw [T.cell m1 (hm b _ m1 (by rw [m2];rfl))] at k5
  exact (R.ns j e b c rows k1 k2' k3 i row v k4 k5).cX T (fun b i hb hw=>hm b i hb (by rw [hw];rfl)) hp hg fun b hb hw=>(ho b hb (by rw [hw];rfl)).trans hw
theorem jT.cX {mps : List (Pc Mp)} (H : jT B E p mps w) (T : bX Mc w w') (hq : q.mp=p.mp) (ho : ∀ a b,p.mp a=some b→p.ow b=.mp a→b < w.heap.size→(∀ c e f,w.heap[b]?≠some (.cells c e f))→q.ow b=.mp a) : jT B E q mps w':=by
 refine ⟨fun a M h=>?_,fun a h=>by rw [hq];exact H.free a h⟩
 obtain ⟨b,es,clock,rows,h1,h2,h3,h4,h5,h6⟩:=H.at_ a M h
 obtain ⟨o,e1,e2⟩:=T.obj b _ h4
 have e2 : o=.map es clock:=e2
 subst e2
 exact ⟨b,es,clock,rows,by rw [hq];exact h1,ho a b h1 h2 (lt_of_block h4) (fun c e f hx=>by rw [h4] at hx;cases hx),h3,e1,h5,h6⟩
theorem jT.fU {mps : List (Pc Mp)} (H : jT B E p mps w) (T : bX Mc w w') : jT B E p mps w':=H.cX T rfl fun _ _ _ h _ _=>h
theorem jT.gL {n : Nat} {mps : List (Pc Mp)} (H : jT B E p mps w) (hE : E.bV n F) (u : dr (Pc.all fun A=>A.x.under n) mps=true) : jT B F p mps w:=by
 refine ⟨fun a M h=>?_,H.free⟩
 obtain ⟨b,es,clock,rows,h1,h2,h3,h4,h5,h6⟩:=H.at_ a M h
 have hu : M.x.under n=true:=dP u h
 exact ⟨b,es,clock,rows,h1,h2,h3,h4,by rw [← X.dq hE hu];exact h5,h6⟩
theorem bn.pr (H : bn B E p g h w) {k o : Nat} {v : Value} (hk : g k o=some v) : k < w.heap.size:=tO (H.gg k o v hk).1
theorem bn.nX (H : bn B E p g h w) (T : bX Mc w w') (hM : ∀ k i,k < w.heap.size→Mc k i→B.wr k i) : bX B.M B.w0 w' :=
 (H.fr.trans (T.mono (Nc:=fun k i=>B.wr k i) hM)).mono fun k i hk hm=>by
  rcases hm with hm | hm | hm
  ·exact hm
  ·exact hm
  ·omega
theorem bn.q8 (H : bn B E p g h w) (T : bX Mc w w') (hM : ∀ k i,k < w.heap.size→Mc k i→p.ow k≠.z) {k o : Nat} {v : Value} (hk : g k o=some v) : w'.cell? ⟨k,o,none⟩=some v:=by
 obtain ⟨h1,h2⟩:=H.gg k o v hk
 exact (T.cell (H.pr hk) fun hm=>hM k o (H.pr hk) hm h2).trans h1
theorem bn.below (H : bn B E p g h w) (hb : Below w.heap.size w w') : bn B E p g h w':=by
 have T : bX (fun _ _=>False) w w':=bX.jz hb
 exact ⟨H.nX T fun _ _ _ h=>h.elim,H.g0,H.g1,fun k o v hk=>⟨H.q8 T (fun _ _ _ h=>h.elim) hk,(H.gg k o v hk).2⟩,
  fun r cs hr=>(H.reg r cs hr).cX T (fun _ _ _ _ _ h=>h) (Pl.Le.refl _) (Gm.Le.refl _) fun b q' e=>by
   obtain ⟨b',q1,e1,e2,_⟩:=(H.reg r cs hr).ex
   rw [e] at e1;cases e1;exact e2,H.rfree,
  fun a A ha=>(H.arr a A ha).cX T (fun _ _ _ _ h=>h) (Pl.Le.refl _) (Gm.Le.refl _) fun _ _ _=>rfl,H.afree,H.mm.fU T,fun k a h=>Nat.lt_of_lt_of_le (H.nz k a h) T.size⟩
theorem jS.gL {n r : Nat} {cs : List SC} (R : jS B E p g r cs w) (hE : E.bV n F) (u : dr (SC.under n) cs=true) : jS B F p g r cs w:=by
 obtain ⟨b,q',h1,h2,h3,h4⟩:=R.ex
 refine ⟨b,q',h1,h2,h3,fun o c hc=>?_⟩
 obtain ⟨k1,k2,v,k3,k4⟩:=h4 o c hc
 exact ⟨k1,k2,v,k3,SC.et hE (dP u hc) k4⟩
theorem kr.gL {n a : Nat} {A : Ar} (R : kr B E p g a A w) (hE : E.bV n F) (u : A.x.under n=true) : kr B F p g a A w:=by
 obtain ⟨⟨ad,cap,rows,h1,h2,h3⟩,h4⟩:=R
 exact ⟨⟨ad,cap,rows,h1,by rw [← X.dq hE u];exact h2,h3⟩,fun j e b c rows k1 k2 k3=>h4 j e b c rows k1 k2 (by rw [X.dq hE u];exact k3)⟩
theorem bn.gL {n : Nat} (H : bn B E p g h w) (hE : E.bV n F) (u : h.under n=true) : bn B F p g h w:=by
 simp only [Hp.under,Bool.and_eq_true] at u
 exact ⟨H.fr,H.g0,H.g1,H.gg,fun r cs hr=>(H.reg r cs hr).gL hE (dP u.1 hr),H.rfree,fun a A ha=>(H.arr a A ha).gL hE (dP u.2.1 ha),H.afree,H.mm.gL hE u.2.2,H.nz⟩
end
end Go.Sy
