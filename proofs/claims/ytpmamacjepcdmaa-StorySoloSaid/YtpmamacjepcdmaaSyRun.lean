import Derived.WalkKit
import Derived.Deep.Draws
import Derived.RowKit
import Derived.Orders
import Derived.Deep.Quiet
namespace Go.Sy
open Go.RowKit
inductive CD where
 | i (n : Int) | b (x : Bool) | s (l : List UInt8) | l (rows : List (List CD)) | u | o (rows : List (List CD)) | h (s n : Nat)
instance : Inhabited CD:=⟨.u⟩
namespace CD
def int : CD→Int | .i n=>n | _=>0
def bool : CD→Bool | .b x=>x | _=>false
def str : CD→List UInt8 | .s t=>t | _=>[]
def rows : CD→List (List CD) | .l r=>r | _=>[]
def row (c : CD) : List CD:=c.rows.headD []
def shut : CD→CD | .o r=>.l r | d=>d
def isO : CD→Bool | .o _=>true | _=>false
def isL : CD→Bool | .l _=>true | _=>false
def isH : CD→Bool | .h _ _=>true | _=>false
@[simp] theorem CS (r : List (List CD)) : (CD.o r).shut=.l r:=rfl
@[simp] theorem shut_l (r : List (List CD)) : (CD.l r).shut=.l r:=rfl
@[simp] theorem isO_o (r : List (List CD)) : (CD.o r).isO=true:=rfl
@[simp] theorem isL_l (r : List (List CD)) : (CD.l r).isL=true:=rfl
@[simp] theorem aR (n : Int) : (CD.i n).int=n:=rfl
@[simp] theorem gB (x : Bool) : (CD.b x).bool=x:=rfl
@[simp] theorem str_s (x : List UInt8) : (CD.s x).str=x:=rfl
@[simp] theorem ax (r : List (List CD)) : (CD.l r).rows=r:=rfl
def eqs : CD→CD→Bool
 | .i x,.i y=>x ==y
 | .b x,.b y=>x ==y
 | .s x,.s y=>x ==y
 | _,_=>false
end CD
def kJ : List CD→List CD→Bool
 | [],[]=>true
 | a :: l,b :: m=>a.eqs b && kJ l m
 | _,_=>false
abbrev Env:=Nat→CD
def Env.put (E : Env) (lo : Nat) (out : List CD) : Env:=fun i=>if i < lo then E i else out.getD (i - lo) .u
inductive X where
 | int (n : Int) | bool (x : Bool) | str (l : List UInt8) | var (i : Nat)
 | cell (x i : X) (o : Nat) | len (x : X) | slen (x : X)
 | add (x y : X) | sub (x y : X) | mul (x y : X) | tmod (x y : X) | tdiv (x y : X) | min (x y : X) | max (x y : X)
 | lt (x y : X) | le (x y : X) | eq (x y : X) | fit (x : X) | beq (x y : X) | seq (x y : X) | not (x : X) | and (x y : X) | or (x y : X)
 | nil | row0 | cons (d r : X) | app (x y : X) | take (n x : X) | drop (n x : X) | set (x i : X) (o : Nat) (d : X) | rep (n r : X)
 | look (x key d : X) (k o : Nat) | has (x key : X) (k : Nat)
 | own (x : X) | shut (x : X) | isO (x : X) | isL (x : X) | ref (a : Nat) (n : X) | clean (x : X) (j : Nat) | shuts (x : X) (j : Nat)
 deriving Inhabited
def CD.find (x : List (List CD)) (key : List CD) (k : Nat) : Option (List CD):=x.find? fun r=>kJ (r.take k) key
def X.den (E : Env) : X→CD
 | .int n=>.i n
 | .bool b=>.b b
 | .str l=>.s l
 | .var i=>E i
 | .cell x i o=>((x.den E).rows.getD (i.den E).int.toNat []).getD o .u
 | .len x=>.i (x.den E).rows.length
 | .slen x=>.i (x.den E).str.length
 | .add x y=>.i ((x.den E).int + (y.den E).int)
 | .sub x y=>.i ((x.den E).int - (y.den E).int)
 | .mul x y=>.i ((x.den E).int * (y.den E).int)
 | .tmod x y=>.i ((x.den E).int.tmod (y.den E).int)
 | .tdiv x y=>.i ((x.den E).int.tdiv (y.den E).int)
 | .min x y=>.i (if (y.den E).int < (x.den E).int then (y.den E).int else (x.den E).int)
 | .max x y=>.i (if (x.den E).int < (y.den E).int then (y.den E).int else (x.den E).int)
 | .lt x y=>.b (decide ((x.den E).int < (y.den E).int))
 | .le x y=>.b (decide ((x.den E).int≤(y.den E).int))
 | .eq x y=>.b ((x.den E).int ==(y.den E).int)
 | .fit x=>.b (decide (-9223372036854775808≤(x.den E).int) && decide ((x.den E).int≤9223372036854775807))
 | .beq x y=>.b ((x.den E).bool ==(y.den E).bool)
 | .seq x y=>.b ((x.den E).str ==(y.den E).str)
 | .not x=>.b (!(x.den E).bool)
 | .and x y=>.b ((x.den E).bool && (y.den E).bool)
 | .or x y=>.b ((x.den E).bool || (y.den E).bool)
 | .nil=>.l []
 | .row0=>.l [[]]
 | .cons d r=>.l [d.den E :: (r.den E).row]
 | .app x y=>.l ((x.den E).rows ++ (y.den E).rows)
 | .take n x=>.l ((x.den E).rows.take (n.den E).int.toNat)
 | .drop n x=>.l ((x.den E).rows.drop (n.den E).int.toNat)
 | .set x i o d=>.l ((x.den E).rows.modify (i.den E).int.toNat fun r=>r.set o (d.den E))
 | .rep n r=>.l (List.replicate (n.den E).int.toNat (r.den E).row)
 | .look x key d k o=>((CD.find (x.den E).rows (key.den E).row k).getD []).getD o (d.den E)
 | .has x key k=>.b (CD.find (x.den E).rows (key.den E).row k).isSome
 | .own x=>.o (x.den E).rows
 | .shut x=>(x.den E).shut
 | .isO x=>.b (x.den E).isO
 | .isL x=>.b (x.den E).isL
 | .ref a n=>.h a (n.den E).int.toNat
 | .clean x j=>.b ((x.den E).rows.all fun r=>!(r.getD j .u).isH)
 | .shuts x j=>.l ((x.den E).rows.map fun r=>r.modify j CD.shut)
def IntKind.same : IntKind→IntKind→Bool
 | .i8,.i8 | .i16,.i16 | .i32,.i32 | .i64,.i64 | .u8,.u8 | .u16,.u16 | .u32,.u32 | .u64,.u64=>true
 | _,_=>false
theorem IntKind.av {a b : IntKind} (h : IntKind.same a b=true) : a=b:=by cases a <;> cases b <;> simp_all [IntKind.same]
def nj : Int→Int→Bool
 | .ofNat a,.ofNat b=>Nat.beq a b
 | .negSucc a,.negSucc b=>Nat.beq a b
 | _,_=>false
theorem zK {a b : Int} (h : nj a b=true) : a=b:=by
 cases a <;> cases b <;> simp only [nj,Bool.false_eq_true] at h <;> rw [Nat.eq_of_beq_eq_true h]
def gC (a b : Bool) : Bool:=if a then b else b.not
theorem iq {a b : Bool} (h : gC a b=true) : a=b:=by revert h;cases a <;> cases b <;> simp [gC]
def bK {α : Type} (f : α→α→Bool) : List α→List α→Bool
 | [],[]=>true
 | a :: l,b :: m=>(f a b).and (bK f l m)
 | _,_=>false
theorem bH {α : Type} {f : α→α→Bool} (hf : ∀ a b,f a b=true→a=b) : ∀ {l m : List α},bK f l m=true→l=m:=by
 intro l
 induction l with
 | nil=>intro m h;cases m <;> simp_all [bK]
 | cons a l ih =>
  intro m h
  cases m <;> simp only [bK,Bool.false_eq_true,Bool.and_eq_true] at h
  rw [hf _ _ h.1,ih h.2]
def mJ (a b : UInt8) : Bool:=Nat.beq a.toNat b.toNat
theorem Lv (a b : UInt8) (h : mJ a b=true) : a=b:=UInt8.toNat_inj.1 (Nat.eq_of_beq_eq_true h)
def sQ (a b : Nat × Nat) : Bool:=(Nat.beq a.1 b.1).and (Nat.beq a.2 b.2)
theorem xj (a b : Nat × Nat) (h : sQ a b=true) : a=b:=by
 simp only [sQ,Bool.and_eq_true] at h
 exact Prod.ext (Nat.eq_of_beq_eq_true h.1) (Nat.eq_of_beq_eq_true h.2)
def X.same : X→X→Bool
 | .int a,.int b=>nj a b
 | .bool a,.bool b=>gC a b
 | .str a,.str b=>bK mJ a b
 | .var a,.var b=>Nat.beq a b
 | .cell x i o,.cell y j p=>(Nat.beq o p).and ((X.same i j).and (X.same x y))
 | .len x,.len y | .slen x,.slen y | .fit x,.fit y | .not x,.not y | .own x,.own y | .shut x,.shut y | .isO x,.isO y | .isL x,.isL y=>X.same x y
 | .ref a x,.ref b y | .clean x a,.clean y b | .shuts x a,.shuts y b=>(Nat.beq a b).and (X.same x y)
 | .add a b,.add c d | .sub a b,.sub c d | .mul a b,.mul c d | .tmod a b,.tmod c d | .tdiv a b,.tdiv c d | .min a b,.min c d | .max a b,.max c d
 | .lt a b,.lt c d | .le a b,.le c d | .eq a b,.eq c d | .beq a b,.beq c d | .seq a b,.seq c d | .and a b,.and c d | .or a b,.or c d
 | .cons a b,.cons c d | .app a b,.app c d | .take a b,.take c d | .drop a b,.drop c d | .rep a b,.rep c d=>(X.same a c).and (X.same b d)
 | .nil,.nil | .row0,.row0=>true
 | .set x i o d,.set y j p e=>(Nat.beq o p).and ((X.same i j).and ((X.same d e).and (X.same x y)))
 | .look x key d k o,.look y key' d' k' p=>(Nat.beq o p).and ((Nat.beq k k').and ((X.same key key').and ((X.same d d').and (X.same x y))))
 | .has x key k,.has y key' k'=>(Nat.beq k k').and ((X.same key key').and (X.same x y))
 | _,_=>false
theorem X.av : ∀ {a b : X},X.same a b=true→a=b:=by
 intro a
 induction a with
 | int n=>intro b h;cases b <;> simp only [X.same,Bool.false_eq_true] at h;rw [zK h]
 | bool n=>intro b h;cases b <;> simp only [X.same,Bool.false_eq_true] at h;rw [iq h]
 | str n=>intro b h;cases b <;> simp only [X.same,Bool.false_eq_true] at h;rw [bH Lv h]
 | var n=>intro b h;cases b <;> simp only [X.same,Bool.false_eq_true] at h;rw [Nat.eq_of_beq_eq_true h]
 | cell x i o ix ii =>
  intro b h
  cases b <;> simp only [X.same,Bool.false_eq_true,Bool.and_eq_true] at h
  rw [Nat.eq_of_beq_eq_true h.1,ii h.2.1,ix h.2.2]
 | len x ix | slen x ix | fit x ix | not x ix | own x ix | shut x ix | isO x ix | isL x ix =>
  intro b h
  cases b <;> simp only [X.same,Bool.false_eq_true] at h
  rw [ix h]
 | ref a x ix | clean x a ix | shuts x a ix =>
  intro b h
  cases b <;> simp only [X.same,Bool.false_eq_true,Bool.and_eq_true] at h
  rw [Nat.eq_of_beq_eq_true h.1,ix h.2]
 | add x y ix iy | sub x y ix iy | mul x y ix iy | tmod x y ix iy | tdiv x y ix iy | min x y ix iy | max x y ix iy | lt x y ix iy | le x y ix iy | eq x y ix iy | beq x y ix iy | seq x y ix iy | and x y ix iy | or x y ix iy
 | cons x y ix iy | app x y ix iy | take x y ix iy | drop x y ix iy | rep x y ix iy =>
  intro b h
  cases b <;> simp only [X.same,Bool.false_eq_true,Bool.and_eq_true] at h
  rw [ix h.1,iy h.2]
 | nil | row0=>intro b h;cases b <;> simp only [X.same,Bool.false_eq_true] at h <;> rfl
 | set x i o d ix ii id =>
  intro b h
  cases b <;> simp only [X.same,Bool.false_eq_true,Bool.and_eq_true] at h
  rw [Nat.eq_of_beq_eq_true h.1,ii h.2.1,id h.2.2.1,ix h.2.2.2]
 | look x key d k o ix ik id =>
  intro b h
  cases b <;> simp only [X.same,Bool.false_eq_true,Bool.and_eq_true] at h
  rw [Nat.eq_of_beq_eq_true h.1,Nat.eq_of_beq_eq_true h.2.1,ik h.2.2.1,id h.2.2.2.1,ix h.2.2.2.2]
 | has x key k ix ik =>
  intro b h
  cases b <;> simp only [X.same,Bool.false_eq_true,Bool.and_eq_true] at h
  rw [Nat.eq_of_beq_eq_true h.1,ik h.2.1,ix h.2.2]
def X.under (n : Nat) : X→Bool
 | .int _ | .bool _ | .str _ | .nil | .row0=>true
 | .var i=>Nat.blt i n
 | .cell x i _=>(x.under n).and (i.under n)
 | .len x | .slen x | .fit x | .not x | .own x | .shut x | .isO x | .isL x | .ref _ x | .clean x _ | .shuts x _=>x.under n
 | .add x y | .sub x y | .mul x y | .tmod x y | .tdiv x y | .min x y | .max x y | .lt x y | .le x y | .eq x y | .beq x y | .seq x y | .and x y | .or x y
 | .cons x y | .app x y | .take x y | .drop x y | .rep x y=>(x.under n).and (y.under n)
 | .set x i _ d=>(x.under n).and ((i.under n).and (d.under n))
 | .has x key _=>(x.under n).and (key.under n)
 | .look x key d _ _=>(x.under n).and ((key.under n).and (d.under n))
def Env.bW (E : Env) (n : Nat) (F : Env) : Prop:=∀ i,i < n→E i=F i
theorem Hk {a b : Nat} (h : Nat.blt a b=true) : a < b:=by rw [Nat.blt_eq] at h;exact h
theorem X.dM {n : Nat} {E F : Env} (h : E.bW n F) : ∀ {e : X},e.under n=true→e.den E=e.den F:=by
 intro e
 induction e with
 | var i=>intro u;exact h i (Hk u)
 | int | bool | str | nil | row0=>intro _;rfl
 | len x ix | slen x ix | fit x ix | not x ix | own x ix | shut x ix | isO x ix | isL x ix | ref a x ix | clean x a ix | shuts x a ix=>intro u;simp only [X.den,ix u]
 | set x i o d ix ii id =>
  intro u
  simp only [X.under,Bool.and_eq_true] at u
  simp only [X.den,ix u.1,ii u.2.1,id u.2.2]
 | look x y d k o ix iy id =>
  intro u
  simp only [X.under,Bool.and_eq_true] at u
  simp only [X.den,ix u.1,iy u.2.1,id u.2.2]
 | cell x y o ix iy | has x y k ix iy =>
  intro u
  simp only [X.under,Bool.and_eq_true] at u
  simp only [X.den,ix u.1,iy u.2]
 | add x y ix iy | sub x y ix iy | mul x y ix iy | tmod x y ix iy | tdiv x y ix iy | min x y ix iy | max x y ix iy | lt x y ix iy | le x y ix iy | eq x y ix iy | beq x y ix iy | seq x y ix iy | and x y ix iy | or x y ix iy
 | cons x y ix iy | app x y ix iy | take x y ix iy | drop x y ix iy | rep x y ix iy =>
  intro u
  simp only [X.under,Bool.and_eq_true] at u
  simp only [X.den,ix u.1,iy u.2]
theorem Env.bW.refl (E : Env) (n : Nat) : E.bW n E:=fun _ _=>rfl
theorem Env.bW.symm {n : Nat} {E F : Env} (h : E.bW n F) : F.bW n E:=fun i hi=>(h i hi).symm
theorem Env.bW.trans {n : Nat} {E F G : Env} (h : E.bW n F) (k : F.bW n G) : E.bW n G:=fun i hi=>(h i hi).trans (k i hi)
theorem Env.bW.mono {n m : Nat} {E F : Env} (h : E.bW n F) (hm : m≤n) : E.bW m F:=fun i hi=>h i (by omega)
theorem Env.m7 (E : Env) (lo : Nat) (out : List CD) : E.bW lo (E.put lo out):=fun i hi=>by simp [Env.put,hi]
inductive Kd where
 | int (k : IntKind) | bool | str | sl (by_ : Nat) (kd : List Kd) | os (e : Nat)
 deriving Inhabited
mutual
def Kd.same : Kd→Kd→Bool
 | .int k,.int j=>IntKind.same k j
 | .bool,.bool | .str,.str=>true
 | .sl b l,.sl c m=>(Nat.beq b c).and (Kd.lG l m)
 | .os a,.os b=>Nat.beq a b
 | _,_=>false
def Kd.lG : List Kd→List Kd→Bool
 | [],[]=>true
 | a :: l,b :: m=>(Kd.same a b).and (Kd.lG l m)
 | _,_=>false
end
mutual
theorem Kd.av : ∀ (a b : Kd),Kd.same a b=true→a=b
 | .int k,b,h=>by cases b <;> simp only [Kd.same,Bool.false_eq_true] at h;rw [IntKind.av h]
 | .bool,b,h=>by cases b <;> simp only [Kd.same,Bool.false_eq_true] at h;rfl
 | .str,b,h=>by cases b <;> simp only [Kd.same,Bool.false_eq_true] at h;rfl
 | .sl b l,c,h=>by
  cases c <;> simp only [Kd.same,Bool.false_eq_true,Bool.and_eq_true] at h
  rw [Nat.eq_of_beq_eq_true h.1,Kd.fu l _ h.2]
 | .os a,b,h=>by cases b <;> simp only [Kd.same,Bool.false_eq_true] at h;rw [Nat.eq_of_beq_eq_true h]
theorem Kd.fu : ∀ (l m : List Kd),Kd.lG l m=true→l=m
 | [],m,h=>by cases m <;> simp only [Kd.lG,Bool.false_eq_true] at h;rfl
 | a :: l,m,h=>by
  cases m <;> simp only [Kd.lG,Bool.false_eq_true,Bool.and_eq_true] at h
  rw [Kd.av a _ h.1,Kd.fu l _ h.2]
end
structure SK where
 by_ : Nat
 kd : List Kd
 deriving Inhabited
def SK.same (a b : SK) : Bool:=(Nat.beq a.by_ b.by_).and (Kd.lG a.kd b.kd)
theorem SK.av {a b : SK} (h : SK.same a b=true) : a=b:=by
 simp only [SK.same,Bool.and_eq_true] at h
 cases a;cases b
 simp only [SK.mk.injEq]
 exact ⟨Nat.eq_of_beq_eq_true h.1,Kd.fu _ _ h.2⟩
inductive SC where
 | any | undef | int (k : IntKind) (x : X) | bool (x : X) | str (x : X)
 | fz (K : SK) (x : X) | fp (K : SK) (x i : X) (o : Nat) | sl (a : Nat) (n : X) | sub (a z : Nat) (i n : X) | ep (a z : Nat) (i : X) (o : Nat) | loc (r o : Nat)
 | nilsl | z0 | nilp | nilmap | mp (a : Nat) | fn (f : Nat) (caps : List (Nat × Nat))
 deriving Inhabited
inductive SV where
 | one (c : SC) | agg (l : List SC)
 deriving Inhabited
inductive SR where
 | v (x : SV) | tup (l : List SV)
 deriving Inhabited
def SC.same : SC→SC→Bool
 | .any,.any | .undef,.undef | .nilsl,.nilsl | .z0,.z0 | .nilp,.nilp | .nilmap,.nilmap=>true
 | .int k a,.int l b=>(IntKind.same k l).and (X.same a b)
 | .bool a,.bool b | .str a,.str b=>X.same a b
 | .fz K a,.fz L b=>(SK.same K L).and (X.same a b)
 | .fp K a i o,.fp L b j p=>((Nat.beq o p).and (SK.same K L)).and ((X.same i j).and (X.same a b))
 | .sl a n,.sl b m=>(Nat.beq a b).and (X.same n m)
 | .sub a z i n,.sub b y j m=>(Nat.beq a b).and ((Nat.beq z y).and ((X.same i j).and (X.same n m)))
 | .ep a z i o,.ep b y j p=>(Nat.beq a b).and ((Nat.beq z y).and ((Nat.beq o p).and (X.same i j)))
 | .loc a o,.loc b p=>(Nat.beq a b).and (Nat.beq o p)
 | .mp a,.mp b=>Nat.beq a b
 | .fn f c,.fn g d=>(Nat.beq f g).and (bK sQ c d)
 | _,_=>false
theorem SC.av (a b : SC) (h : SC.same a b=true) : a=b:=by
 cases a <;> cases b <;> simp only [SC.same,Bool.false_eq_true,Bool.and_eq_true] at h <;> try rfl
 ·rw [IntKind.av h.1,X.av h.2]
 ·rw [X.av h]
 ·rw [X.av h]
 ·rw [SK.av h.1,X.av h.2]
 ·rw [Nat.eq_of_beq_eq_true h.1.1,SK.av h.1.2,X.av h.2.1,X.av h.2.2]
 ·rw [Nat.eq_of_beq_eq_true h.1,X.av h.2]
 ·rw [Nat.eq_of_beq_eq_true h.1,Nat.eq_of_beq_eq_true h.2.1,X.av h.2.2.1,X.av h.2.2.2]
 ·rw [Nat.eq_of_beq_eq_true h.1,Nat.eq_of_beq_eq_true h.2.1,Nat.eq_of_beq_eq_true h.2.2.1,X.av h.2.2.2]
 ·rw [Nat.eq_of_beq_eq_true h.1,Nat.eq_of_beq_eq_true h.2]
 ·rw [Nat.eq_of_beq_eq_true h]
 ·rw [Nat.eq_of_beq_eq_true h.1,bH xj h.2]
def SV.same : SV→SV→Bool
 | .one a,.one b=>SC.same a b
 | .agg a,.agg b=>bK SC.same a b
 | _,_=>false
theorem SV.av (a b : SV) (h : SV.same a b=true) : a=b:=by
 cases a <;> cases b <;> simp only [SV.same,Bool.false_eq_true] at h
 ·rw [SC.av _ _ h]
 ·rw [bH SC.av h]
def SR.same : SR→SR→Bool
 | .v a,.v b=>SV.same a b
 | .tup a,.tup b=>bK SV.same a b
 | _,_=>false
theorem SR.av (a b : SR) (h : SR.same a b=true) : a=b:=by
 cases a <;> cases b <;> simp only [SR.same,Bool.false_eq_true] at h
 ·rw [SV.av _ _ h]
 ·rw [bH SV.av h]
inductive Ow where
 | z | reg (r : Nat) | arr (a : Nat) | mp (a : Nat) | nst (a i j : Nat)
 deriving DecidableEq
def Ow.ofA (a : Nat) : Ow→Prop
 | .arr b=>b=a
 | .nst b _ _=>b=a
 | _=>False
structure Pl where
 reg : Nat→Option (Nat × Nat)
 arr : Nat→Option (Option Addr × Nat)
 mp : Nat→Option Nat
 ow : Nat→Ow
structure Pl.Le (p q : Pl) : Prop where
 reg : ∀ i x,p.reg i=some x→q.reg i=some x
 arr : ∀ i x,p.arr i=some x→q.arr i=some x
 mp : ∀ i x,p.mp i=some x→q.mp i=some x
theorem Pl.Le.refl (p : Pl) : p.Le p:=⟨fun _ _ h=>h,fun _ _ h=>h,fun _ _ h=>h⟩
theorem Pl.Le.trans {p q r : Pl} (h : p.Le q) (k : q.Le r) : p.Le r:=⟨fun i x e=>k.reg i x (h.reg i x e),fun i x e=>k.arr i x (h.arr i x e),fun i x e=>k.mp i x (h.mp i x e)⟩
abbrev Gm:=Nat→Nat→Option Value
def Gm.Le (g g' : Gm) : Prop:=∀ k o v,g k o=some v→g' k o=some v
theorem Gm.Le.refl (g : Gm) : g.Le g:=fun _ _ _ h=>h
theorem Gm.Le.trans {a b c : Gm} (h : a.Le b) (k : b.Le c) : a.Le c:=fun i o v e=>k i o v (h i o v e)
abbrev B47 : Nat:=140737488355328
def wI (rows : List (List CD)) : Prop:=rows.length * 8≤B47∧∀ row∈rows,∃ k,row=[.i k]
def yA (g : Gm) (v : Value) (d : CD) : Prop:=match d with
 | .l rows=>∃ A c,v=.slice A rows.length c∧rows.length≤c∧c≤maxLen∧rows.length * 8≤B47∧(0 < rows.length→∃ b q,A=some ⟨b,q,none⟩∧∀ i row,rows[i]?=some row→∃ k,row=[.i k]∧g b (q + i)=some (.int .i64 k))
 | .o rows=>(∃ A c,v=.slice A rows.length c)∧wI rows
 | .h _ n=>∃ A c,v=.slice A n c
 | _=>False
mutual
def Rd (g : Gm) : Kd→Value→CD→Prop
 | .int k,v,d=>∃ n,v=.int k n∧d=.i n
 | .bool,v,d=>∃ b,v=.bool b∧d=.b b
 | .str,v,d=>∃ s : ByteArray,v=.string s∧d=.s s.data.toList
 | .sl by_ kd,v,d=>∃ A n c rows,v=.slice A n c∧d=.l rows∧rows.length=n∧n≤c∧c≤maxLen∧n * by_≤B47∧(0 < n→∃ b q,A=some ⟨b,q,none⟩∧∀ i row,rows[i]?=some row→aJ g kd (fun j=>g b (q + (i * kd.length + j))) row)
 | .os _,v,d=>yA g v d
def aJ (g : Gm) : List Kd→(Nat→Option Value)→List CD→Prop
 | [],_,[]=>True
 | k :: ks,f,d :: ds=>(∃ v,f 0=some v∧Rd g k v d)∧aJ g ks (fun j=>f (j + 1)) ds
 | _,_,_=>False
end
end Go.Sy

namespace Go.Sy
def dV (D : Nat→Nat→Prop) (w w' : World) : Prop:=∀ k i,D k i→w'.cell? ⟨k,i,none⟩=w.cell? ⟨k,i,none⟩
theorem dV.refl (D : Nat→Nat→Prop) (w : World) : dV D w w:=fun _ _ _=>rfl
theorem dV.trans {D : Nat→Nat→Prop} {a b c : World} (h : dV D a b) (k : dV D b c) : dV D a c:=fun x i d=>(k x i d).trans (h x i d)
section
variable {P : Program} {ops : Array Oper} {Q : Exit→Act→World→Prop} {C : World→Prop} {D : Nat→Nat→Prop} {F : Nat→Bool}
def qC (P : Program) (ops : Array Oper) (Q : Exit→Act→World→Prop) (D : Nat→Nat→Prop) (F : Nat→Bool) : Nat→Array Bool→Act→World→Prop
 | 0,l,a,w=>Region.ready .any ops l=[]∧Q .normal a w
 | fuel + 1,l,a,w=>(Region.ready .any ops l=[]→Q .normal a w) ∧
   ∀ j∈Region.ready .any ops l,wpOp P ops Q j (fun a' w'=>(F j=true→dV D w w')∧qC P ops Q D F fuel (l.setIfInBounds j true) a' w') a w
theorem rv : ∀ (fuel : Nat) (l : Array Bool) (a : Act) (w : World),qC P ops Q D F fuel l a w→wpAny P .any ops Q fuel l a w
 | 0,_,_,_,h=>h
 | fuel + 1,_,_,_,h=>⟨h.1,fun j hj=>wpOp_mono (fun a' w' hh=>rv fuel _ a' w' hh.2) (h.2 j hj)⟩
theorem vv {D' : Nat→Nat→Prop} (hD : ∀ k i,D k i→D' k i) : ∀ (fuel : Nat) (l : Array Bool) (a : Act) (w : World),qC P ops Q D' F fuel l a w→qC P ops Q D F fuel l a w
 | 0,_,_,_,h=>h
 | fuel + 1,_,_,_,h=>⟨h.1,fun j hj=>wpOp_mono (fun a' w' hh=>⟨fun hF k i hk=>hh.1 hF k i (hD k i hk),vv hD fuel _ a' w' hh.2⟩) (h.2 j hj)⟩
def yy (ops : Array Oper) (l : Array Bool) : Prop:=∀ k o,ops[k]?=some o→l.getD k false=true→∀ e∈o.after,Region.binds .any e=true→l.getD e.on false=true
theorem yy.add {l : Array Bool} {j : Nat} (h : yy ops l) (hj : j∈Region.ready .any ops l) : yy ops (l.setIfInBounds j true):=by
 intro k o ho hk e he hb
 by_cases hkj : j=k
 ·subst hkj
  obtain ⟨_,o',ho',hall⟩:=mem_ready.1 hj
  rw [ho] at ho';cases ho'
  exact getD_set_true (hall e he hb)
 ·rw [getD_set_ne false hkj] at hk
  exact getD_set_true (h k o ho hk e he hb)
def nU (tab : List Nat) (o : Oper) : Nat:=o.after.toList.foldl (fun acc e=>if Region.binds .any e then acc ||| (2 ^ e.on) ||| (tab.getD e.on 0) else acc) 0
def dC (ops : List Oper) : List Nat:=ops.foldl (fun tab o=>tab ++ [nU tab o]) []
def waits (tab : List Nat) (j i : Nat) : Bool:=(tab.getD j 0).testBit i
theorem Cv {tab : List Nat} {o : Oper} {i : Nat} (h : (nU tab o).testBit i=true) : ∃ e∈o.after.toList,Region.binds .any e=true∧(e.on=i∨(tab.getD e.on 0).testBit i=true):=by
 unfold nU at h
 have : ∀ (l : List Edge) (acc : Nat),(l.foldl (fun acc e=>if Region.binds .any e then acc ||| (2 ^ e.on) ||| (tab.getD e.on 0) else acc) acc).testBit i=true→acc.testBit i=true∨∃ e∈l,Region.binds .any e=true∧(e.on=i∨(tab.getD e.on 0).testBit i=true):=by
  intro l
  induction l with
  | nil=>intro acc h;exact .inl h
  | cons e l ih =>
   intro acc h
   rw [List.foldl_cons] at h
   rcases ih _ h with h1 | ⟨e',h1,h2⟩
   ·by_cases hb : Region.binds .any e=true
    ·rw [if_pos hb,Nat.testBit_or,Nat.testBit_or,Bool.or_eq_true,Bool.or_eq_true] at h1
     rcases h1 with (h1 | h1) | h1
     ·exact .inl h1
     ·rw [Nat.testBit_two_pow] at h1
      exact .inr ⟨e,by simp,hb,.inl (of_decide_eq_true h1)⟩
     ·exact .inr ⟨e,by simp,hb,.inr h1⟩
    ·rw [if_neg hb] at h1
     exact .inl h1
   ·exact .inr ⟨e',List.mem_cons_of_mem _ h1,h2⟩
 rcases this _ _ h with h1 | h1
 ·simp at h1
 ·exact h1
theorem oN : ∀ (ops : List Oper),(dC ops).length=ops.length∧∀ j i,((dC ops).getD j 0).testBit i=true→∃ o,ops[j]?=some o∧∃ e∈o.after.toList,Region.binds .any e=true∧(e.on=i∨(e.on < j∧((dC ops).getD e.on 0).testBit i=true)):=by
 intro ops
 unfold dC
 have : ∀ (l pre : List Oper) (tab : List Nat),tab.length=pre.length→(∀ j i,(tab.getD j 0).testBit i=true→∃ o,pre[j]?=some o∧∃ e∈o.after.toList,Region.binds .any e=true∧(e.on=i∨(e.on < j∧(tab.getD e.on 0).testBit i=true))) →
   (l.foldl (fun tab o=>tab ++ [nU tab o]) tab).length=(pre ++ l).length∧∀ j i,((l.foldl (fun tab o=>tab ++ [nU tab o]) tab).getD j 0).testBit i=true→∃ o,(pre ++ l)[j]?=some o∧∃ e∈o.after.toList,Region.binds .any e=true∧(e.on=i∨(e.on < j∧((l.foldl (fun tab o=>tab ++ [nU tab o]) tab).getD e.on 0).testBit i=true)):=by
  intro l
  induction l with
  | nil=>intro pre tab h1 h2;simp only [List.foldl_nil,List.append_nil];exact ⟨h1,h2⟩
  | cons o l ih =>
   intro pre tab h1 h2
   have:=ih (pre ++ [o]) (tab ++ [nU tab o]) (by simp [h1]) (fun j i hb=>?_)
   ·rw [List.append_assoc] at this
    exact this
   ·have old : ∀ k,k < tab.length→(tab ++ [nU tab o]).getD k 0=tab.getD k 0:=fun k hk=>by
     simp only [List.getD_eq_getElem?_getD]
     rw [List.getElem?_append_left hk]
    rcases Nat.lt_trichotomy j tab.length with hj | hj | hj
    ·rw [old j hj] at hb
     obtain ⟨o',k1,e,k2,k3,k4⟩:=h2 j i hb
     refine ⟨o',by rw [List.getElem?_append_left (by omega)];exact k1,e,k2,k3,?_⟩
     rcases k4 with k4 | ⟨k4,k5⟩
     ·exact .inl k4
     ·exact .inr ⟨k4,by rw [old _ (by omega)];exact k5⟩
    ·subst hj
     have hlast : (tab ++ [nU tab o]).getD tab.length 0=nU tab o:=by simp [List.getD_eq_getElem?_getD]
     rw [hlast] at hb
     obtain ⟨e,k2,k3,k4⟩:=Cv hb
     refine ⟨o,by rw [h1];simp,e,k2,k3,?_⟩
     rcases k4 with k4 | k4
     ·exact .inl k4
     ·have hlt : e.on < tab.length:=by
       rcases Nat.lt_or_ge e.on tab.length with h | h
       ·exact h
       ·rw [List.getD_eq_getElem?_getD,List.getElem?_eq_none h] at k4;simp at k4
      exact .inr ⟨hlt,by rw [old _ hlt];exact k4⟩
    ·rw [List.getD_eq_getElem?_getD,List.getElem?_eq_none (by simp;omega)] at hb
     simp at hb
 have h0:=this ops [] [] rfl (fun j i hb=>by simp at hb)
 simpa using h0
theorem oQ {l : Array Bool} (hs : yy ops l) {i : Nat} : ∀ (n j : Nat) (o : Oper),j≤n→ops[j]?=some o→(∀ e∈o.after,Region.binds .any e=true→l.getD e.on false=true)→waits (dC ops.toList) j i=true→l.getD i false=true:=by
 intro n
 induction n with
 | zero =>
  intro j o hj ho hall h
  obtain ⟨o',k1,e,k2,k3,k4⟩:=(oN ops.toList).2 j i h
  have : o'=o:=by
   have : ops[j]?=some o':=by simpa using k1
   rw [ho] at this;cases this;rfl
  subst this
  rcases k4 with k4 | ⟨k4,_⟩
  ·subst k4;exact hall e (by simpa using k2) k3
  ·omega
 | succ n ih =>
  intro j o hj ho hall h
  obtain ⟨o',k1,e,k2,k3,k4⟩:=(oN ops.toList).2 j i h
  have : o'=o:=by
   have : ops[j]?=some o':=by simpa using k1
   rw [ho] at this;cases this;rfl
  subst this
  have he:=hall e (by simpa using k2) k3
  rcases k4 with k4 | ⟨k4,k5⟩
  ·subst k4;exact he
  ·obtain ⟨o2,q1,_⟩:=(oN ops.toList).2 e.on i k5
   have q1 : ops[e.on]?=some o2:=by simpa using q1
   exact ih e.on o2 (by omega) q1 (fun e' he' hb'=>hs e.on o2 q1 he e' he' hb') k5
theorem iP {i j : Nat} {l : Array Bool} (hj : j∈Region.ready .any ops l) (hne : j≠i) : j∈Region.ready .any ops (l.setIfInBounds i true):=ready_mono hj hne
def jr (P : Program) (ops : Array Oper) (C : World→Prop) (o : Oper) (v : Value) (a : Act) : Prop :=
 (Region.wanted o (yielded ops a.tmps)=true∧∀ w,C w→(execOp a.eval o).run P w=.ok (.value v) w)∨(Region.wanted o (yielded ops a.tmps)=false∧v=undef)
theorem jr.of_same {o : Oper} {v : Value} {a a' : Act} (hy : jr P ops C o v a) (he : execOp a'.eval o=execOp a.eval o) (hw : Region.wanted o (yielded ops a'.tmps)=Region.wanted o (yielded ops a.tmps)) : jr P ops C o v a':=by
 unfold jr at *
 rw [he,hw]
 exact hy
theorem jr.op {i : Nat} {o : Oper} {v : Value} {a : Act} {w : World} (hi : ops[i]?=some o) (hy : jr P ops C o v a) (hw : C w) {K : Act→World→Prop} (h : K (a.put o.dst v) w) : wpOp P ops Q i K a w:=by
 unfold wpOp
 simp only [hi]
 rcases hy with ⟨h1,h2⟩ | ⟨h1,rfl⟩
 ·rw [if_pos h1]
  left
  unfold Oper.wp
  rw [h2 w hw]
  exact h
 ·rw [if_neg (by rw [h1];exact Bool.false_ne_true)]
  exact h
theorem C8 {j : Nat} {oi oj : Oper} {v : Value} (hj : ops[j]?=some oj) (hap : oi.apart ops oj=true) (hsi : ∀ cs b,oi.op≠.select cs b) (hsj : ∀ cs b,oj.op≠.select cs b)
  (hQ : ∀ c a w,Q (.panic c) (a.put oi.dst v) w→Q (.panic c) a w) {K : Act→World→Prop} {a : Act} {w : World} (hy : jr P ops C oi v a) (h : wpOp P ops Q j K (a.put oi.dst v) w) :
  wpOp P ops Q j (fun a' w'=>jr P ops C oi v a'∧K (a'.put oi.dst v) w') a w:=by
 obtain ⟨h1,h2,h3⟩:=Oper.apart_spec hap
 have hk : ∀ (b : Act),jr P ops C oi v b→∀ u,jr P ops C oi v (b.put oj.dst u):=fun b hb u=>hb.of_same (execOp_put oi hsi b oj.dst u h3) (wanted_put oi b oj.dst u h3)
 have hsw : ∀ u,(a.put oi.dst v).put oj.dst u=(a.put oj.dst u).put oi.dst v:=fun u=>Act.put_comm a v u h2
 unfold wpOp at h ⊢
 simp only [hj] at h ⊢
 rw [wanted_put oj a oi.dst v h1] at h
 by_cases hw : Region.wanted oj (yielded ops a.tmps)=true
 ·rw [if_pos hw] at h ⊢
  rcases h with h | ⟨has,hlo⟩
  ·left
   unfold Oper.wp at h ⊢
   rw [execOp_put oj hsj a oi.dst v h1] at h
   generalize (execOp a.eval oj).run P w=r at h ⊢
   rcases r with ⟨n,w'⟩ | ⟨x,w'⟩
   ·cases n with
    | value u=>exact ⟨hk a hy u,by rw [← hsw];exact h⟩
    | skip=>exact ⟨hk a hy undef,by rw [← hsw];exact h⟩
    | defer d =>
     refine ⟨(hk a hy undef).of_same (by cases oj.dst <;> rfl) (by cases oj.dst <;> rfl),?_⟩
     rw [← Act.put_comm _ v undef h2,← Act.put_defers]
     exact h
    | enter f args =>
     refine Calls.mono h fun e w'' he=>?_
     rcases e with u | c | _
     ·exact ⟨hk a hy u,by rw [← hsw];exact he⟩
     ·exact hQ _ _ _ he
     ·exact he
    | row row args=>exact Rows.mono h fun u w'' he=>⟨hk a hy u,by rw [← hsw];exact he⟩
    | _=>exact h.elim
   ·cases x with
    | panic u=>exact hQ _ _ _ h
    | _=>exact h
  ·right
   refine ⟨?_,hlo⟩
   unfold Oper.asks at has ⊢
   rwa [execOp_put oj hsj a oi.dst v h1] at has
 ·rw [if_neg hw] at h ⊢
  exact ⟨hk a hy undef,by rw [← hsw];exact h⟩
theorem FR {i : Nat} {oi : Oper} {v : Value} {w1 : World} (hi : ops[i]?=some oi) (hsel : ∀ (j : Nat) (o : Oper) cs b,ops[j]?=some o→o.op≠.select cs b) (hQ : ∀ c a w,Q (.panic c) (a.put oi.dst v) w→Q (.panic c) a w) :
  ∀ (fuel : Nat) (l : Array Bool) (a : Act) (w : World),yy ops l →
   (∀ j oj,ops[j]?=some oj→j≠i→l.getD j true=false→waits (dC ops.toList) j i=false→oi.apart ops oj=true∧F j=true) →
   i∈Region.ready .any ops l→jr P ops (dV D w1) oi v a→dV D w1 w→qC P ops Q D F fuel (l.setIfInBounds i true) (a.put oi.dst v) w→qC P ops Q D F (fuel + 1) l a w:=by
 intro fuel
 induction fuel with
 | zero =>
  intro l a w _ _ hr hy hw H
  refine ⟨fun h=>(by rw [h] at hr;cases hr),fun j hj=>?_⟩
  by_cases hji : j=i
  ·subst hji;exact hy.op hi hw ⟨fun _=>dV.refl _ _,H⟩
  ·have:=iP hj hji
   rw [H.1] at this
   cases this
 | succ fuel ih =>
  intro l a w hs hfree hr hy hw H
  refine ⟨fun h=>(by rw [h] at hr;cases hr),fun j hj=>?_⟩
  by_cases hji : j=i
  ·subst hji;exact hy.op hi hw ⟨fun _=>dV.refl _ _,H⟩
  ·have h1:=H.2 j (iP hj hji)
   obtain ⟨hjun,oj,hoj,hall⟩:=mem_ready.1 hj
   have hi0 : l.getD i false=false:=by
    have h0:=(mem_ready.1 hr).1
    rcases Nat.lt_or_ge i l.size with h' | h'
    ·simp only [Array.getD,h',dite_true] at h0 ⊢;exact h0
    ·simp [Array.getD,Nat.not_lt.2 h']
   have hnw : waits (dC ops.toList) j i=false:=by
    cases hww : waits (dC ops.toList) j i with
    | false=>rfl
    | true=>rw [oQ hs j j oj (Nat.le_refl _) hoj hall hww] at hi0;cases hi0
   obtain ⟨hap,hF⟩:=hfree j oj hoj hji hjun hnw
   have h2:=C8 hoj hap (fun cs b=>hsel i oi cs b hi) (fun cs b=>hsel j oj cs b hoj) hQ hy h1
   refine wpOp_mono (fun a' w' h3=>⟨h3.2.1,?_⟩) h2
   refine ih (l.setIfInBounds j true) a' w' (hs.add hj) (fun k ok hk hki hun hno=>hfree k ok hk hki ?_ hno) (iP hr (Ne.symm hji)) h3.1 (hw.trans (h3.2.1 hF)) (by rw [Array.setIfInBounds_comm _ _ hji];exact h3.2.2)
   by_cases hjk : j=k
   ·subst hjk;exact hjun
   ·rw [getD_set_ne true hjk] at hun;exact hun
theorem Cs {i : Nat} {oi : Oper} {v : Value} (hi : ops[i]?=some oi) (hsel : ∀ (j : Nat) (o : Oper) cs b,ops[j]?=some o→o.op≠.select cs b) (hQ : ∀ c a w,Q (.panic c) (a.put oi.dst v) w→Q (.panic c) a w) :
  ∀ (fuel : Nat) (l : Array Bool) (a : Act) (w : World),yy ops l →
   (∀ j oj,ops[j]?=some oj→j≠i→l.getD j true=false→waits (dC ops.toList) j i=false→oi.apart ops oj=true) →
   i∈Region.ready .any ops l→jr P ops (fun _=>True) oi v a→qC P ops Q D F fuel (l.setIfInBounds i true) (a.put oi.dst v) w→qC P ops Q D F (fuel + 1) l a w:=by
 intro fuel
 induction fuel with
 | zero =>
  intro l a w _ _ hr hy H
  refine ⟨fun h=>(by rw [h] at hr;cases hr),fun j hj=>?_⟩
  by_cases hji : j=i
  ·subst hji;exact hy.op hi trivial ⟨fun _=>dV.refl _ _,H⟩
  ·have:=iP hj hji
   rw [H.1] at this
   cases this
 | succ fuel ih =>
  intro l a w hs hfree hr hy H
  refine ⟨fun h=>(by rw [h] at hr;cases hr),fun j hj=>?_⟩
  by_cases hji : j=i
  ·subst hji;exact hy.op hi trivial ⟨fun _=>dV.refl _ _,H⟩
  ·have h1:=H.2 j (iP hj hji)
   obtain ⟨hjun,oj,hoj,hall⟩:=mem_ready.1 hj
   have hi0 : l.getD i false=false:=by
    have h0:=(mem_ready.1 hr).1
    rcases Nat.lt_or_ge i l.size with h' | h'
    ·simp only [Array.getD,h',dite_true] at h0 ⊢;exact h0
    ·simp [Array.getD,Nat.not_lt.2 h']
   have hnw : waits (dC ops.toList) j i=false:=by
    cases hww : waits (dC ops.toList) j i with
    | false=>rfl
    | true=>rw [oQ hs j j oj (Nat.le_refl _) hoj hall hww] at hi0;cases hi0
   have h2:=C8 hoj (hfree j oj hoj hji hjun hnw) (fun cs b=>hsel i oi cs b hi) (fun cs b=>hsel j oj cs b hoj) hQ hy h1
   refine wpOp_mono (fun a' w' h3=>⟨h3.2.1,?_⟩) h2
   refine ih (l.setIfInBounds j true) a' w' (hs.add hj) (fun k ok hk hki hun hno=>hfree k ok hk hki ?_ hno) (iP hr (Ne.symm hji)) h3.1 (by rw [Array.setIfInBounds_comm _ _ hji];exact h3.2.2)
   by_cases hjk : j=k
   ·subst hjk;exact hjun
   ·rw [getD_set_ne true hjk] at hun;exact hun
theorem Cu {l : Array Bool} {a : Act} {w : World} (hr : Region.ready .any ops l=[]) (h : Q .normal a w) : ∀ fuel,qC P ops Q D F fuel l a w
 | 0=>⟨hr,h⟩
 | _ + 1=>⟨fun _=>h,by rw [hr];simp⟩
def reads (o : Oper) : Bool:=match o.op with
 | .store _ _ _ | .alloc _ | .box _ _ | .buildSlice _ _ _ | .makeSlice _ _ _ | .makeMap _ _ | .lookup _ _ _ _ | .mapUpdate _ _ _ _ | .insert _ _ _ _=>false
 | .call c=>(match c.callee with | .builtin .len | .builtin .cap | .builtin .min | .builtin .max=>true | _=>false)
 | _=>true
def inF (ops : Array Oper) (m j : Nat) : Bool:=(Nat.blt j m).and (match ops[j]? with
 | some o=>(match o.op with
  | .store _ _ _=>false
  | .call c=>(match c.callee with | .builtin .copy | .builtin .delete=>false | _=>true)
  | _=>true)
 | none=>true)
def zR (tab : List Nat) (ops : Array Oper) (m : Nat) (l : Array Bool) (i : Nat) : Bool:=match ops[i]? with
 | none=>false
 | some oi=>(List.range ops.size).all fun j=>(Nat.beq j i).or ((l.getD j true).or ((waits tab j i).or (match ops[j]? with
   | some oj=>(oi.apart ops oj).and (inF ops m j)
   | none=>true)))
end
end Go.Sy

namespace Go.Sy
def nth {α : Type} : List α→Nat→Option α
 | [],_=>none
 | a :: _,0=>some a
 | _ :: l,n + 1=>nth l n
def bl {α : Type} : List α→Nat→α→List α
 | [],_,_=>[]
 | _ :: l,0,b=>b :: l
 | a :: l,n + 1,b=>a :: bl l n b
def dD {α : Type} (f : α→Bool) : List α→Bool
 | []=>true
 | a :: l=>(f a).and (dD f l)
def rI (n : Nat) : List Nat→Bool
 | []=>false
 | m :: l=>if Nat.beq n m then true else rI n l
def eJ : List Nat→Bool
 | []=>true
 | a :: l=>(rI a l).not.and (eJ l)
def fk {α : Type} (n : Nat) : List (Nat × α)→Option α
 | []=>none
 | (m,a) :: l=>if Nat.beq n m then some a else fk n l
def lookR {α : Type} (n o : Nat) : List (Nat × Nat × α)→Option α
 | []=>none
 | (m,q,a) :: l=>if (Nat.beq n m).and (Nat.beq o q) then some a else lookR n o l
def ga {α : Type} (l : List α) (o n : Nat) : Option (List α) :=
 let m:=(l.drop o).take n
 if Nat.beq m.length n then some m else none
def cq {α : Type} : List α→Nat→List α→List α
 | l,_,[]=>l
 | l,o,c :: m=>cq (bl l o c) (o + 1) m
inductive Pc (α : Type) where
 | fr | go | here (x : α)
instance {α : Type} : Inhabited (Pc α):=⟨.go⟩
def Pc.map {α β : Type} (f : α→β) : Pc α→Pc β
 | .fr=>.fr
 | .go=>.go
 | .here x=>.here (f x)
def Pc.all {α : Type} (f : α→Bool) : Pc α→Bool
 | .here x=>f x
 | _=>true
def Pc.same {α : Type} (f : α→α→Bool) : Pc α→Pc α→Bool
 | .fr,.fr | .go,.go=>true
 | .here a,.here b=>f a b
 | _,_=>false
def putAt {α : Type} (l : List (Pc α)) (r : Nat) (x : α) : List (Pc α):=if Nat.beq r l.length then l ++ [.here x] else bl l r (.here x)
def gp {α : Type} (f : α→α→Bool) : List α→List α→Bool
 | [],[]=>true
 | a :: l,b :: m=>(f a b).and (gp f l m)
 | _,_=>false
def dg {α : Type} (l : List (Pc α)) (r : Nat) : Bool:=(Nat.beq r l.length).or (match nth l r with | some .fr=>true | _=>false)
inductive TK where
 | struct (fs : List (Nat × Nat)) | array (n e : Nat) | slice (e : Nat) | map (k v : Nat) | ptr (e : Nat) | other
 deriving Inhabited
structure TI where
 sz : Nat
 by_ : Nat
 agg : Bool
 zero : List SC
 k : TK
 kd : Option (List Kd)
 eq : Bool
 key : Bool:=false
 deriving Inhabited
abbrev TT:=List (Nat × TI)
def TT.get : TT→Nat→Option TI
 | [],_=>none
 | (u,i) :: l,t=>if Nat.beq u t then some i else TT.get l t
structure Ar where
 e : Nat
 K : SK
 x : X
 deriving Inhabited
structure Mp where
 tk : Nat
 tv : Nat
 kk : List Kd
 agg : Bool
 vk : Kd
 x : X
 deriving Inhabited
structure Hp where
 regs : List (Pc (List SC))
 arrs : List (Pc Ar)
 mps : List (Pc Mp)
 deriving Inhabited
structure St where
 fn : Nat
 tmps : List SR
 stk : List (List SR)
 h : Hp
 nx : Nat
 known : List X
 deriving Inhabited
inductive Tree where
 | ret (outs : List X)
 | ite (b : X) (t e : Tree)
 | need (b : X) (t : Tree)
 | call (f : Nat) (args : List X) (lo : Nat) (t : Tree)
 | loop (id : Nat) (ks : List Kd) (init : List X) (body : Tree)
 | back (id : Nat) (cur : List X)
 | join (id : Nat) (ks : List Kd) (a b : Tree)
 | both (a b : Tree)
 | bad (why : String) (n : List Nat)
 | leaf (s : St)
 deriving Inhabited
def mq : Int→Int→Bool
 | .ofNat a,.ofNat b=>Nat.blt a b
 | .ofNat _,.negSucc _=>false
 | .negSucc _,.ofNat _=>true
 | .negSucc a,.negSucc b=>Nat.blt b a
def inI64 (x : Int) : Bool:=(mq x (-9223372036854775808)).not.and (mq x 9223372036854775808)
def X.mem (b : X) : List X→Bool
 | []=>false
 | c :: l=>if X.same b c then true else X.mem b l
def X.zV : X→X→Bool
 | .eq x (.int n),.eq y (.int k)=>(X.same x y).and ((mq n k).or (mq k n))
 | .lt (.int n) x,.eq y (.int k)=>(X.same x y).and (mq n k).not
 | _,_=>false
def X.tR (b : X) : List X→Bool
 | []=>false
 | c :: l=>if X.zV b c then true else X.tR b l
def X.dec (known : List X) : X→Option Bool
 | .bool b=>some b
 | .not x=>match X.dec known x with
  | some b=>some b.not
  | none=>if X.mem (.not x) known then some true else none
 | .and x y=>match X.dec known x,X.dec known y with
  | some false,_=>some false
  | _,some false=>some false
  | some true,some true=>some true
  | _,_=>if X.mem (.and x y) known then some true else if X.mem (.not (.and x y)) known then some false else none
 | .or x y=>match X.dec known x,X.dec known y with
  | some true,_=>some true
  | _,some true=>some true
  | some false,some false=>some false
  | _,_=>if X.mem (.or x y) known then some true else if X.mem (.not (.or x y)) known then some false else none
 | b=>if X.mem b known then some true else if X.mem (.not b) known then some false else if X.tR b known then some false else none
def X.lL : X→List X
 | .and x y=>X.lL x ++ X.lL y
 | .not (.or x y)=>[.not x,.not y]
 | b=>[b]
def mkNot : X→X
 | .bool b=>.bool b.not
 | x=>.not x
def neg : X→X
 | .not x=>x
 | x=>mkNot x
def mkAnd : X→X→X
 | .bool true,y=>y
 | .bool false,_=>.bool false
 | x,y=>.and x y
def isLen : X→Bool
 | .len _ | .slen _=>true
 | .add x y=>(isLen x).and (isLen y)
 | .int (.ofNat _)=>true
 | _=>false
def mkLt : X→X→X
 | .int a,.int b=>.bool (mq a b)
 | a,b=>if X.same a b then .bool false else .lt a b
def mkLe : X→X→X
 | .int a,.int b=>.bool (mq b a).not
 | .int (.ofNat 0),b=>if isLen b then .bool true else .le (.int 0) b
 | a,b=>if X.same a b then .bool true else .le a b
def mkEq : X→X→X
 | .int a,.int b=>.bool (nj a b)
 | a,b=>if X.same a b then .bool true else .eq a b
def AR : X→X→X
 | .bool a,.bool b=>.bool (gC a b)
 | x,y=>if X.same x y then .bool true else .beq x y
def mkSeq : X→X→X
 | .str a,.str b=>.bool (bK mJ a b)
 | x,y=>if X.same x y then .bool true else .seq x y
def mkAdd : X→X→X
 | .int a,.int b=>.int (a + b)
 | .int (.ofNat 0),y=>if isLen y then y else .add (.int 0) y
 | x,.int (.ofNat 0)=>if isLen x then x else .add x (.int 0)
 | .add x (.int (.ofNat a)),.int (.ofNat b)=>.add x (.int (.ofNat (a + b)))
 | x,y=>.add x y
def bn : X→X
 | .set x _ _ _=>bn x
 | .nil=>.int 0
 | .row0=>.int 1
 | .cons _ _=>.int 1
 | .app x y=>mkAdd (bn x) (bn y)
 | .rep n r=>(match n with
  | .len x=>.len x
  | .int (.ofNat n)=>.int (.ofNat n)
  | n=>.len (.rep n r))
 | x=>.len x
def dc (n x : X) : X:=if X.same n (bn x) then x else .take n x
def qj (n x : X) : X:=match n with
 | .int (.ofNat 0)=>x
 | n=>.drop n x
def cD : X→X→Nat→X
 | .set y j p d,i,o=>if Nat.beq o p then (if X.same i j then d else (match i,j with
   | .int (.ofNat a),.int (.ofNat b)=>if Nat.beq a b then .cell (.set y j p d) i o else cD y i o
   | i,j=>.cell (.set y j p d) i o)) else cD y i o
 | .cons d r,i,o=>(match i,o with
  | .int (.ofNat 0),0=>d
  | .int (.ofNat 0),o + 1=>cD r (.int 0) o
  | i,o=>.cell (.cons d r) i o)
 | .app x y,i,o=>(match i,bn x with
  | .int (.ofNat a),.int (.ofNat n)=>if Nat.blt a n then cD x (.int (.ofNat a)) o else cD y (.int (.ofNat (a - n))) o
  | i,_=>.cell (.app x y) i o)
 | .rep _ r,_,o=>cD r (.int 0) o
 | x,i,o=>.cell x i o
def iC : List X→X
 | []=>.row0
 | d :: l=>.cons d (iC l)
def wa : SK:=⟨8,[.int .i64]⟩
def Kd.DF : Kd→Bool | .os _=>true | _=>false
def Kd.shut : Kd→Kd | .os _=>.sl 8 [.int .i64] | k=>k
def SK.shut (K : SK) : SK:=⟨K.by_,K.kd.map Kd.shut⟩
def jY : Nat→List Kd→List (Nat × Nat)
 | _,[]=>[]
 | o,.os e :: l=>(o,e) :: jY (o + 1) l
 | o,_ :: l=>jY (o + 1) l
def iM (l : List Kd) : Bool:=match jY 0 l with | []=>true | _=>false
def rS (i : X) (o : Nat) (d : X) : X→Option X
 | .set y j p c=>if Nat.beq o p then (if X.same i j then some (.set y i o d) else none) else (match rS i o d y with | some z=>some (.set z j p c) | none=>none)
 | _=>none
def mkSet (x i : X) (o : Nat) (d : X) : X:=match rS i o d x with | some z=>z | none=>.set x i o d
def lY : X→Nat→Option (Nat × X)
 | .cons (.ref s n) _,0=>some (s,n)
 | .cons _ r,j + 1=>lY r j
 | _,_=>none
def sK : X→Nat→X→X
 | .cons _ r,0,d=>.cons d r
 | .cons c r,j + 1,d=>.cons c (sK r j d)
 | x,_,_=>x
def pt (j : Nat) : X→Option (X × Nat × X)
 | .set y i o d=>if Nat.beq o j then (match d with | .ref s n=>some (i,s,n) | _=>none) else pt j y
 | .app x y=>(match lY y j with | some (s,n)=>some (bn x,s,n) | none=>none)
 | .cons c r=>(match lY (.cons c r) j with | some (s,n)=>some (.int 0,s,n) | none=>none)
 | _=>none
def oK (j : Nat) (d : X) : X→X
 | .set y i o c=>if Nat.beq o j then .set y i o d else .set (oK j d y) i o c
 | .app x y=>.app x (sK y j d)
 | x=>sK x j d
def v9 (x : X) : Kd→SC
 | .os _=>.fz wa x
 | .int k=>.int k x
 | .bool=>.bool x
 | .str=>.str x
 | .sl b kd=>.fz ⟨b,kd⟩ x
def jI : Kd→SC→Option X
 | .int k,.int j x=>if IntKind.same k j then some x else none
 | .bool,.bool x=>some x
 | .str,.str x=>some x
 | .sl b kd,.fz K x=>if SK.same ⟨b,kd⟩ K then some x else none
 | .sl _ _,.nilsl=>some .nil
 | .sl _ _,.z0=>some .nil
 | .os _,.fz K x=>if SK.same wa K then some x else none
 | .os _,.nilsl=>some (.own .nil)
 | .os _,.z0=>some (.own .nil)
 | .os _,.sl a n=>some (.ref a n)
 | _,_=>none
def cj : List Kd→List SC→Option (List X)
 | [],[]=>some []
 | k :: l,c :: m=>match jI k c,cj l m with
  | some x,some xs=>some (x :: xs)
  | _,_=>none
 | _,_=>none
def CR : List Kd→List SC→Option Nat
 | .os _ :: ks,_ :: l=>CR ks l
 | _,.sl a _ :: _=>some a
 | _ :: ks,_ :: l=>CR ks l
 | [],_ :: l=>CR [] l
 | _,[]=>none
def jy (x i : X) : Nat→List Kd→List SC
 | _,[]=>[]
 | o,k :: ks=>v9 (cD x i o) k :: jy x i (o + 1) ks
def setCells (x i : X) : Nat→List X→X
 | _,[]=>x
 | o,d :: l=>setCells (.set x i o d) i (o + 1) l
def SC.full : SC→Bool
 | .any=>false
 | _=>true
def SV.full : SV→Bool
 | .one c=>c.full
 | .agg l=>dD SC.full l
def SR.full : SR→Bool
 | .v x=>x.full
 | .tup l=>dD SV.full l
def SV.cells : SV→List SC
 | .one c=>[c]
 | .agg l=>l
def sS : Value→Option SC
 | .int k n=>some (.int k (.int n))
 | .bool b=>some (.bool (.bool b))
 | .string s=>some (.str (.str s.data.toList))
 | .pointer none=>some .nilp
 | .slice none 0 0=>some .nilsl
 | .map none=>some .nilmap
 | .nilFunc=>some .any
 | _=>none
def jx : List Value→Option (List SC)
 | []=>some []
 | v :: l=>match sS v,jx l with
  | some c,some m=>some (c :: m)
  | _,_=>none
def ofConst : Value→Option SR
 | .agg cs=>(jx cs.toList).map fun l=>.v (.agg l)
 | v=>(sS v).map fun c=>.v (.one c)
def ev (T : List SR) : Operand→Option SR
 | .tmp t=>nth T t
 | .const v=>ofConst v
 | .global _=>none
 | .func f=>some (.v (.one (.fn f [])))
def evs (T : List SR) : List Operand→Option (List SR)
 | []=>some []
 | o :: l=>match ev T o,evs T l with
  | some c,some m=>some (c :: m)
  | _,_=>none
inductive Out where
 | val (fy : List X) (r : SR) (h : Hp) (quiet : Bool:=true)
 | skip (fy : List X) (h : Hp)
 | ask (b : X)
 | nilq (n : X) (neg : Bool)
 | frz (a : Nat)
 | opn (a : Nat) (i : X) (o : Nat)
 | call (f : Nat) (args : List SR)
 | bad (why : String)
def dF (i n : X) : List X:=[mkLe (.int 0) i,mkLt i n]
def lq (f : Int→Int→Int) : X→X→Option X
 | .int a,.int b=>if inI64 (f a b) then some (.int (f a b)) else none
 | _,_=>none
def arith (op : BinOp) (k : IntKind) (x y : X) : Option (List X × X) :=
 match k with
 | .i64=>(match op with
  | .add=>(match lq (· + ·) x y with | some e=>some ([],e) | none=>some ([.fit (.add x y)],.add x y))
  | .sub=>(match lq (· - ·) x y with | some e=>some ([],e) | none=>some ([.fit (.sub x y)],.sub x y))
  | .mul=>(match lq (· * ·) x y with | some e=>some ([],e) | none=>some ([.fit (.mul x y)],.mul x y))
  | .rem=>(match lq Int.tmod x y with | some e=>some ([mkNot (mkEq y (.int 0))],e) | none=>some ([mkNot (mkEq y (.int 0))],.tmod x y))
  | _=>none)
 | _=>none
def jD : List SC→List SC→Option X
 | [],[]=>some (.bool true)
 | .int _ a :: l,.int _ b :: m=>(jD l m).map fun r=>mkAnd (mkEq a b) r
 | .bool a :: l,.bool b :: m=>(jD l m).map fun r=>mkAnd (AR a b) r
 | _,_=>none
def gE : List Kd→List SC→Bool
 | [],[]=>true
 | .int k :: l,.int j _ :: m=>(IntKind.same k j).and (gE l m)
 | .bool :: l,.bool _ :: m=>gE l m
 | _,_=>false
def oJ (op : BinOp) (b : X) : Option X:=match op with
 | .eql=>some b
 | .neq=>some (mkNot b)
 | _=>none
def compare (T : TT) (op : BinOp) (t : Nat) (x y : SV) : Option X :=
 match x,y with
 | .one (.int k a),.one (.int j b) =>
  if IntKind.same k j then match op with
   | .eql=>some (mkEq a b)
   | .neq=>some (mkNot (mkEq a b))
   | .lss=>some (mkLt a b)
   | .leq=>some (mkLe a b)
   | .gtr=>some (mkLt b a)
   | .geq=>some (mkLe b a)
   | _=>none
  else none
 | .one (.bool a),.one (.bool b)=>match T.get t with
  | some { eq:=true,agg:=false,kd:=some kd,.. }=>if gE kd [.bool a] then oJ op (AR a b) else none
  | _=>none
 | .one (.str a),.one (.str b)=>oJ op (mkSeq a b)
 | .one .nilp,.one .nilp=>(match T.get t with | some { k:=.ptr _,.. }=>oJ op (.bool true) | _=>none)
 | .one (.loc _ _),.one .nilp=>(match T.get t with | some { k:=.ptr _,.. }=>oJ op (.bool false) | _=>none)
 | .agg l,.agg m=>match T.get t with
  | some { eq:=true,agg:=true,kd:=some kd,.. }=>if (gE kd l).and (gE kd m) then (match jD l m with
    | some b=>oJ op b
    | none=>none)
   else none
  | _=>none
 | _,_=>none
def lu (T : TT) (k : TK) (cells : List SC) : List (Nat × SR)→Option (List SC)
 | []=>some cells
 | (i,.v x) :: l =>
  let place : Option (Nat × Nat):=match k with
   | .struct fs=>(match nth fs i with | some (off,t)=>(T.get t).map fun j=>(off,j.sz) | none=>none)
   | .array n e=>if Nat.blt i n then (T.get e).map fun j=>(i * j.sz,j.sz) else none
   | _=>none
  match place with
  | some (off,z)=>if (Nat.beq x.cells.length z).and (Nat.ble (off + z) cells.length) then lu T k (cq cells off x.cells) l else none
  | none=>none
 | _ :: _=>none
def ql : X→Option Nat
 | .int (.ofNat n)=>some n
 | _=>none
def dH (agg : Bool) (cs : List SC) : Option SR:=if agg then some (.v (.agg cs)) else match cs with
 | [c]=>some (.v (.one c))
 | _=>none
def kO (x i : X) : Nat→List Kd→List X
 | _,[]=>[]
 | o,.os _ :: l=>.isL (cD x i o) :: kO x i (o + 1) l
 | o,_ :: l=>kO x i (o + 1) l
def isRef : X→Option (Nat × X)
 | .ref s n=>some (s,n)
 | _=>none
def ml (agg : Bool) (sz : Nat) (l : List Kd) : Bool:=agg.not.and ((Nat.beq sz 1).and (match l with | [.os _]=>true | _=>false))
def DG : X→Bool
 | .shut _=>true
 | .take _ x=>DG x
 | _=>false
def loadAt (T : TT) (h : Hp) (t : Nat) : SR→Out
 | .v (.one (.loc r o))=>match T.get t,nth h.regs r with
  | some i,some (.here cs)=>match ga cs o i.sz with
   | some m=>(match dH i.agg m with | some r=>.val [] r h | none=>.bad "load")
   | none=>.bad "load cells"
  | _,_=>.bad "load region"
 | .v (.one (.ep a z i o))=>match T.get t,nth h.arrs a with
  | some ti,some (.here A) =>
   if (Nat.beq z A.K.kd.length).and (Nat.ble (o + ti.sz) z) then
    (if (ml ti.agg ti.sz ((A.K.kd.drop o).take ti.sz)).and (DG (cD A.x i o)).not then (match isRef (cD A.x i o) with
     | some (s,n)=>.val (dF i (bn A.x) ++ [mkLe (.int 0) (mkAdd (.int 0) n)]) (.v (.one (.sl s (mkAdd (.int 0) n)))) h
     | none=>.opn a i o) else
    match dH ti.agg (jy A.x i o ((A.K.kd.drop o).take ti.sz)) with | some r=>.val (dF i (bn A.x) ++ kO A.x i o ((A.K.kd.drop o).take ti.sz)) r h | none=>.bad "load one")
   else .bad "load size"
  | _,_=>.bad "load array"
 | .v (.one (.fp K x i o))=>match T.get t with
  | some ti =>
   if (Nat.ble (o + ti.sz) K.kd.length).and (iM ((K.kd.drop o).take ti.sz)) then
    (match dH ti.agg (jy x i o ((K.kd.drop o).take ti.sz)) with | some r=>.val [] r h | none=>.bad "load one")
   else .bad "load size"
  | none=>.bad "load type"
 | _=>.bad "load address"
def storeAt (T : TT) (h : Hp) (t : Nat) (a x : SR) : Out :=
 match x with
 | .tup _=>.bad "store"
 | .v x=>match T.get t with
  | none=>.bad "store type"
  | some ti =>
   if (Nat.beq x.cells.length ti.sz).and (dD (fun c=>match c with | .any | .undef=>false | _=>true) x.cells) then match a with
    | .v (.one (.loc r o))=>(match nth h.regs r with
     | some (.here cs)=>if Nat.ble (o + ti.sz) cs.length then .skip [] { h with regs:=bl h.regs r (.here (cq cs o x.cells))} else .bad "store cells"
     | _=>.bad "store region")
    | .v (.one (.ep b z i o))=>(match nth h.arrs b with
     | some (.here A) =>
      if (Nat.beq z A.K.kd.length).and (Nat.ble (o + ti.sz) z) then
       (match CR ((A.K.kd.drop o).take ti.sz) x.cells with
        | some c=>.frz c
        | none=>(match cj ((A.K.kd.drop o).take ti.sz) x.cells with
         | some ds=>.skip (dF i (bn A.x)) { h with arrs:=bl h.arrs b (.here { A with x:=(if ml ti.agg ti.sz ((A.K.kd.drop o).take ti.sz) then mkSet A.x i o (ds.headD .nil) else setCells A.x i o ds)})}
         | none=>.bad "store data"))
      else .bad "store size"
     | _=>.bad "store array")
    | _=>.bad "store address"
   else .bad "store size of the value"
def kz : List SR→Option (List (Nat × Nat))
 | []=>some []
 | .v (.one (.loc r o)) :: l=>(kz l).map fun m=>(r,o) :: m
 | _ :: _=>none
def isSlice (T : TT) (t : Nat) : Option Nat:=match T.get t with
 | some { k:=.slice e,.. }=>some e
 | _=>none
def AP : X→X→X
 | .int a,.int b=>.int (if mq b a then b else a)
 | x,y=>.min x y
def AQ : X→X→X
 | .int a,.int b=>.int (if mq a b then b else a)
 | x,y=>.max x y
def DA (kd : List Kd) (x : X) : Bool:=match jY 0 kd with
 | [(j,_)]=>(match lY x j with | some _=>true | none=>false)
 | _=>false
def nZ (h : Hp) (K : SK) : SC→Option (List X × X)
 | .fz L x=>if SK.same K.shut L then some ([],x) else none
 | .nilsl | .z0=>some ([],.nil)
 | .sl a n=>match nth h.arrs a with
  | some (.here A)=>if (SK.same K A.K).and ((iM K.kd).or (DA K.kd A.x)) then some ([mkLe n (bn A.x)],dc n A.x) else none
  | _=>none
 | _=>none
def iW (ti : TI) : Option (List X):=match ti.kd with
 | some kd=>cj kd ti.zero
 | none=>none
def zi (K : SK) : Nat:=B47 / K.by_
def sZ : X→X→X
 | m,.int (.ofNat 0)=>m
 | m,lo=>if X.same m lo then .int 0 else .sub m lo
def fg (kd : List Kd) (arrs : List (Pc Ar)) : SC→List (Pc Ar)
 | .sl b _=>if iM kd then arrs else bl arrs b .go
 | _=>arrs
def C7 (a : Nat) (n : X) (K : SK) (e : Nat) (A : Ar) : SC→Option (List X × SC × Ar)
 | .sub b z i m=>if ((Nat.beq a b).and ((Nat.beq z A.K.kd.length).and (iM A.K.kd))).and ((SK.same A.K K).and (Nat.beq A.e e)) then
   some ([mkLe (.add n m) (bn A.x),mkLe (.add i m) (bn A.x),mkLe (.int 0) n],.sl a (.add n m),{ A with x:=.app (.take n A.x) (.app (.take m (.drop i A.x)) (.drop (.add n m) A.x))})
  else none
 | _=>none
def notAr (a : Nat) : SC→Bool
 | .sl b _=>(Nat.beq a b).not
 | _=>true
def fN (T : TT) (h : Hp) (sa : Nat) (ats : List Nat) (b : Builtin) (args : List SR) : Out :=
 match b,args with
 | .len,[.v (.one c)]=>(match ats with
  | [t]=>(match isSlice T t with
   | some _=>(match c with
    | .sl _ n=>.val [] (.v (.one (.int .i64 n))) h
    | .fz _ x=>.val [] (.v (.one (.int .i64 (bn x)))) h
    | .nilsl | .z0=>.val [] (.v (.one (.int .i64 (.int 0)))) h
    | _=>.bad "len")
   | none=>.bad "len type")
  | _=>.bad "len")
 | .min,[.v (.one (.int .i64 x)),.v (.one (.int .i64 y))]=>.val [] (.v (.one (.int .i64 (AP x y)))) h
 | .max,[.v (.one (.int .i64 x)),.v (.one (.int .i64 y))]=>.val [] (.v (.one (.int .i64 (AQ x y)))) h
 | .append,[.v (.one x),.v (.one y)]=>(match ats with
  | [t,u]=>if Nat.beq t u then (match isSlice T t with
   | some e=>(match T.get e with
    | some { by_:=by_,kd:=some kd,sz:=sz,.. } =>
     let K : SK:=⟨by_,kd⟩
     if ((Nat.beq kd.length sz).and (Nat.blt 0 sz)).and ((Nat.blt 0 by_).and (dg h.arrs sa)) then (match nZ h K y with
      | some (ns,dy)=>(match x with
       | .nilsl | .z0=>.val (ns ++ [mkLe (bn dy) (.int (zi K))]) (.v (.one (.sl sa (bn dy)))) { h with arrs:=putAt (fg kd h.arrs y) sa { e:=e,K:=K,x:=dy}} (iM kd)
       | .sl a n=>(match nth h.arrs a with
        | some (.here A) =>
         if ((SK.same A.K K).and (Nat.beq A.e e)).and (notAr a y) then
          let d:=X.app (dc n A.x) dy
          .val (ns ++ [mkLe n (bn A.x),mkLe (mkAdd n (bn dy)) (.int (zi K))]) (.v (.one (.sl sa (mkAdd n (bn dy))))) { h with arrs:=putAt (fg kd (bl h.arrs a .go) y) sa { e:=e,K:=K,x:=d}} ((iM kd).and (X.same n (bn A.x)))
         else .bad "append kinds"
        | _=>.bad "append array")
       | _=>.bad "append onto")
      | none=>(match x with
       | .sl a n=>(match nth h.arrs a with
        | some (.here A)=>(match C7 a n K e A y with
         | some (ns,r,A')=>.val ns (.v (.one r)) { h with arrs:=bl h.arrs a (.here A')} false
         | none=>.bad "append what")
        | _=>.bad "append array")
       | _=>.bad "append what"))
     else .bad "append size"
    | _=>.bad "append types")
   | none=>.bad "append type") else .bad "append types"
  | _=>.bad "append args")
 | .clear,[.v (.one (.sub a z i m))]=>(match ats with
  | [t]=>(match isSlice T t with
   | some e=>(match T.get e,nth h.arrs a with
    | some ei,some (.here A)=>(match iW ei with
     | some zd=>if ((Nat.beq A.e e).and (Nat.beq z ei.sz)).and ((Nat.beq A.K.kd.length ei.sz).and ((match ei.kd with | some kd=>(Kd.lG kd A.K.kd).and (iM kd) | none=>false).and (Nat.blt 0 ei.sz))) then
       .val [mkLe (.add i m) (bn A.x)] (.tup []) { h with arrs:=bl h.arrs a (.here { A with x:=.app (.take i A.x) (.app (.rep m (iC zd)) (.drop (.add i m) A.x))})} false
      else .bad "clear kinds"
     | none=>.bad "clear zero")
    | _,_=>.bad "clear array")
   | none=>.bad "clear type")
  | _=>.bad "clear args")
 | _,_=>.bad "builtin"
def CQ (h : Hp) : SC→Option X
 | .fz _ x=>some (bn x)
 | .sl a n=>(match nth h.arrs a with | some (.here _)=>some n | _=>none)
 | .z0=>some (.int 0)
 | _=>none
def IL (T : TT) (h : Hp) (op : BinOp) (t : Nat) (x y : SR) : Out :=
 match x,y with
 | .v (.one c),.v (.one .nilsl)=>(match isSlice T t,CQ h c,op with
  | some _,some n,.eql=>.nilq n false
  | some _,some n,.neq=>.nilq n true
  | _,_,_=>.bad "nil")
 | .v x,.v y=>match compare T op t x y with
  | some b=>.val [] (.v (.one (.bool b))) h
  | none=>match x,y with
   | .one (.int k a),.one (.int j b)=>if IntKind.same k j then (match arith op k a b with
    | some (ns,r)=>.val ns (.v (.one (.int k r))) h
    | none=>.bad "arith") else .bad "kinds"
   | _,_=>.bad "binop"
 | _,_=>.bad "binop"
def oz (T : TT) (k : TK) : Bool:=match k with
 | .struct fs=>dD (fun (x : Nat × Nat)=>match T.get x.2 with | some _=>true | none=>false) fs
 | .array _ e=>(match T.get e with | some _=>true | none=>false)
 | _=>false
def rowsOf (kd : List Kd) (z : Nat) : Nat→List SC→Option X
 | 0,_=>some .nil
 | n + 1,cs=>match cj kd (cs.take z),rowsOf kd z n (cs.drop z) with
  | some r,some x=>some (match x with | .nil=>iC r | x=>.app (iC r) x)
  | _,_=>none
def oI : Kd→Bool
 | .int _=>true
 | .bool=>true
 | _=>false
def tr (ki : TI) (kk : List Kd) : Bool:=(dD oI kk).and ki.key
def Du (ki : TI) (kk : List Kd) (vi : TI) (vk : Kd) : Bool:=(tr ki kk).and ((oI vk).and vi.agg.not)
def lb (ki : TI) : SV→Bool
 | .one _=>ki.agg.not
 | .agg _=>ki.agg
def uX (M : Mp) (ki vi : TI) (tk tv : Nat) : Bool:=((Nat.beq M.tk tk).and (Nat.beq M.tv tv)).and (match ki.kd,vi.kd with
 | some kk,some [vk]=>(((Kd.lG kk M.kk).and (Kd.same vk M.vk)).and (gC M.agg ki.agg)).and (Du ki kk vi vk)
 | _,_=>false)
def aop (T : TT) (tm : List SR) (h : Hp) (sr sa : Nat) (op : Op) : Out :=
 match op with
 | .move x | .assign x=>(match ev tm x with | some r=>.val [] r h | none=>.bad "operand")
 | .pick c a b=>(match ev tm c,ev tm a,ev tm b with
  | some (.v (.one (.bool (.bool c)))),some x,some y=>.val [] (if c then x else y) h
  | some (.v (.one (.bool c))),some _,some _=>.ask c
  | _,_,_=>.bad "pick")
 | .alloc t=>(match T.get t with
  | some i=>if dg h.regs sr then .val [] (.v (.one (.loc sr 0))) { h with regs:=putAt h.regs sr i.zero} else .bad "place"
  | none=>.bad "alloc")
 | .box t x=>(match T.get t,ev tm x with
  | some _,some (.v x)=>if x.full.and (dg h.regs sr) then .val [] (.v (.one (.loc sr 0))) { h with regs:=putAt h.regs sr x.cells} else .bad "box not full"
  | _,_=>.bad "box")
 | .load t a=>(match ev tm a with | some r=>loadAt T h t r | none=>.bad "operand")
 | .store t a x=>(match ev tm a,ev tm x with | some r,some v=>storeAt T h t r v | _,_=>.bad "operand")
 | .nilCheck x=>(match ev tm x with
  | some (.v (.one (.loc r o)))=>.val [] (.v (.one (.loc r o))) h
  | some (.v (.one (.ep a z i o)))=>(match nth h.arrs a with | some (.here A)=>.val (dF i (bn A.x)) (.v (.one (.ep a z i o))) h | _=>.bad "nilCheck")
  | some (.v (.one (.fp K x i o)))=>.val [] (.v (.one (.fp K x i o))) h
  | some (.v (.one (.fn f c)))=>.val [] (.v (.one (.fn f c))) h
  | _=>.bad "nilCheck")
 | .fieldAddr t x f=>(match T.get t,ev tm x with
  | some { k:=.struct fs,.. },some r=>(match nth fs f with
   | some (off,u)=>(match T.get u with
    | some ui=>if Nat.blt 0 ui.sz then (match r with
     | .v (.one (.loc q o))=>.val [] (.v (.one (.loc q (o + off)))) h
     | .v (.one (.ep a z i o))=>(match nth h.arrs a with | some (.here A)=>.val (dF i (bn A.x)) (.v (.one (.ep a z i (o + off)))) h | _=>.bad "fieldAddr array")
     | .v (.one (.fp K x i o))=>if Nat.ble (o + off) K.kd.length then .val [] (.v (.one (.fp K x i (o + off)))) h else .bad "fieldAddr offset"
     | _=>.bad "fieldAddr address") else .bad "fieldAddr size"
    | none=>.bad "fieldAddr type")
   | none=>.bad "fieldAddr field")
  | _,_=>.bad "fieldAddr")
 | .indexAddr t x i=>(match T.get t,ev tm x,ev tm i with
  | some { k:=.slice e,.. },some (.v (.one x)),some (.v (.one (.int .i64 i)))=>(match T.get e with
   | some ei=>(match x with
    | .sl a n=>(match nth h.arrs a with
     | some (.here A)=>if (Nat.beq A.K.kd.length ei.sz).and (Nat.blt 0 ei.sz) then .val (dF i n ++ [mkLe n (bn A.x)]) (.v (.one (.ep a ei.sz i 0))) h else .bad "indexAddr size"
     | _=>.bad "indexAddr array")
    | .fz K x=>if (Nat.beq K.kd.length ei.sz).and (Nat.blt 0 ei.sz) then .val (dF i (bn x)) (.v (.one (.fp K x i 0))) h else .bad "indexAddr size"
    | _=>.bad "indexAddr slice")
   | none=>.bad "indexAddr type")
  | some { k:=.array n e,.. },some (.v (.one (.loc r o))),some (.v (.one (.int .i64 i)))=>(match T.get e,ql i with
   | some ei,some j=>if Nat.blt j n then .val [] (.v (.one (.loc r (o + j * ei.sz)))) h else .bad "indexAddr literal"
   | _,_=>.bad "indexAddr not literal")
  | _,_,_=>.bad "indexAddr")
 | .index t x i=>(match T.get t,ev tm x,ev tm i with
  | some { k:=.array n e,.. },some (.v (.agg l)),some (.v (.one (.int .i64 i)))=>(match T.get e,ql i with
   | some ei,some j=>if (Nat.blt j n).and (Nat.beq l.length (n * ei.sz)) then (match ga l (j * ei.sz) ei.sz with
    | some m=>(match dH ei.agg m with | some r=>.val [] r h | none=>.bad "index")
    | none=>.bad "index cells") else .bad "index literal"
   | _,_=>.bad "index not literal")
  | _,_,_=>.bad "index")
 | .field t x f=>(match T.get t,ev tm x with
  | some { k:=.struct fs,.. },some (.v (.agg l))=>(match nth fs f with
   | some (off,u)=>(match T.get u with
    | some ui=>(match ga l off ui.sz with
     | some m=>(match dH ui.agg m with | some r=>.val [] r h | none=>.bad "field")
     | none=>.bad "field cells")
    | none=>.bad "field type")
   | none=>.bad "field")
  | _,_=>.bad "field")
 | .extract x i=>(match ev tm x with
  | some (.tup l)=>(match nth l i with | some v=>.val [] (.v v) h | none=>.bad "extract")
  | _=>.bad "extract")
 | .binOp op t x y _=>(match ev tm x,ev tm y with | some x,some y=>IL T h op t x y | _,_=>.bad "operand")
 | .unOp .not _ x=>(match ev tm x with
  | some (.v (.one (.bool b)))=>.val [] (.v (.one (.bool (mkNot b)))) h
  | _=>.bad "not")
 | .unOp .neg _ x=>(match ev tm x with
  | some (.v (.one (.int k a)))=>(match arith .sub k (.int 0) a with
   | some (ns,r)=>.val ns (.v (.one (.int k r))) h
   | none=>.bad "neg")
  | _=>.bad "neg")
 | .build t parts=>(match T.get t,evs tm (parts.toList.map (·.2)) with
  | some i,some vs=>if (oz T i.k).not.or (dD SR.full vs).not then .bad "build fields" else (match lu T i.k i.zero ((parts.toList.map (·.1)).zip vs) with
   | some cs=>if i.agg then .val [] (.v (.agg cs)) h else .bad "build"
   | none=>.bad "build parts")
  | _,_=>.bad "build type")
 | .buildSlice t n parts=>(match T.get t,evs tm (parts.toList.map (·.2)) with
  | some { k:=.slice e,.. },some vs=>(match T.get e with
   | some ei=>(match lu T (.array n e) (List.replicate (n * ei.sz) .any) ((parts.toList.map (·.1)).zip vs),ei.kd with
    | some cs,some kd=>if (((Nat.blt 0 ei.sz).and (Nat.blt 0 ei.by_)).and ((Nat.ble (n * ei.sz) 4096).and (Nat.beq kd.length ei.sz))).and ((dD SR.full vs).and ((Nat.ble (n * ei.by_) B47).and (dg h.arrs sa))) then (match CR (List.replicate n kd).flatten cs with
      | some c=>.frz c
      | none=>(match rowsOf kd ei.sz n cs with
       | some x=>.val [] (.v (.one (.sl sa (.int n)))) { h with arrs:=putAt h.arrs sa { e:=e,K:=⟨ei.by_,kd⟩,x:=x}}
       | none=>.bad "buildSlice data")) else .bad "buildSlice size"
    | _,_=>.bad "buildSlice parts")
   | none=>.bad "buildSlice type")
  | _,_=>.bad "buildSlice")
 | .makeFunc (.func f) first caps=>(match first.toList,evs tm caps.toList with
  | [],some cs=>(match kz cs with | some l=>.val [] (.v (.one (.fn f l))) h | none=>.bad "makeFunc captured")
  | _,_=>.bad "makeFunc")
 | .makeSlice t n c=>(match T.get t,ev tm n,ev tm c with
  | some { k:=.slice e,.. },some (.v (.one (.int .i64 n))),some (.v (.one (.int .i64 c)))=>(match T.get e with
   | some ei=>(match ei.kd,iW ei with
    | some kd,some z=>if ((X.same n c).and (Nat.blt 0 ei.sz)).and ((Nat.beq kd.length ei.sz).and ((Nat.blt 0 ei.by_).and (dg h.arrs sa))) then
      .val [mkLe (.int 0) n,mkLe n (.int (B47 / ei.by_))] (.v (.one (.sl sa n))) { h with arrs:=putAt h.arrs sa { e:=e,K:=⟨ei.by_,kd⟩,x:=.rep n (iC z)}}
     else .bad "makeSlice"
    | _,_=>.bad "makeSlice kinds")
   | none=>.bad "makeSlice type")
  | _,_,_=>.bad "makeSlice")
 | .slice t x lo hi mx=>(match T.get t,ev tm x,(match lo with | none=>some (SR.v (.one (.int .i64 (.int 0)))) | some l=>ev tm l),(match hi with | none=>some none | some l=>(ev tm l).map some),(match mx with | none=>some none | some l=>(ev tm l).map some) with
  | some { k:=.slice e,.. },some (.v (.one x)),some (.v (.one (.int .i64 lo))),some hi,some mx=>(match T.get e,mx,hi with
   | some _,some (.v (.one (.int .i64 (.int (.ofNat 0))))),some (.v (.one (.int .i64 (.int (.ofNat 0)))))=>(match lo,x with
    | .int (.ofNat 0),.fz _ _ | .int (.ofNat 0),.sl _ _ | .int (.ofNat 0),.nilsl | .int (.ofNat 0),.z0=>.val [] (.v (.one .z0)) h
    | _,_=>.bad "slice three")
   | some _,some (.v (.one (.int .i64 c))),some (.v (.one (.int .i64 m)))=>(match x with
    | .sl a _=>(match nth h.arrs a with
     | some (.here A)=>.val [mkLe (.int 0) lo,mkLe lo m,mkLe m c,mkLe c (bn A.x)] (.v (.one .any)) h
     | _=>.bad "slice three array")
    | _=>.bad "slice three of what")
   | some ei,none,hi=>(match x with
    | .sl a n=>(match lo,hi with
     | .int (.ofNat 0),some (.v (.one (.int .i64 m)))=>.val [mkLe (.int 0) m,mkLe m n] (.v (.one (.sl a m))) h
     | .int (.ofNat 0),none=>.val [] (.v (.one (.sl a n))) h
     | lo,hi=>(match nth h.arrs a with
      | some (.here A)=>(match hi with
       | some (.v (.one (.int .i64 m)))=>.val [mkLe (.int 0) lo,mkLe lo m,mkLe m (bn A.x)] (.v (.one (.sub a ei.sz lo (sZ m lo)))) h
       | none=>.val [mkLe (.int 0) lo,mkLe lo n,mkLe n (bn A.x)] (.v (.one (.sub a ei.sz lo (sZ n lo)))) h
       | _=>.bad "slice high")
      | _=>.bad "slice array"))
    | .fz K x=>if (Nat.beq K.kd.length ei.sz).not then .bad "slice size" else (match hi with
     | some (.v (.one (.int .i64 m)))=>.val [mkLe (.int 0) lo,mkLe lo m,mkLe m (bn x)] (.v (.one (.fz K (qj lo (dc m x))))) h
     | none=>.val [mkLe (.int 0) lo,mkLe lo (bn x)] (.v (.one (.fz K (qj lo x)))) h
     | _=>.bad "slice high")
    | _=>.bad "slice of what")
   | _,_,_=>.bad "slice bounds")
  | _,_,_,_,_=>.bad "slice")
 | .call c=>(match c.callee,evs tm c.args.toList with
  | .value f,some args=>(match ev tm f with
   | some (.v (.one (.fn g caps)))=>.call g (args ++ caps.map fun x=>SR.v (.one (.loc x.1 x.2)))
   | _=>.bad "call")
  | .builtin b,some args=>fN T h sa c.argTypes.toList b args
  | _,_=>.bad "call operands")
 | .makeMap t none=>(match T.get t with
  | some { k:=.map tk tv,.. }=>(match T.get tk,T.get tv with
   | some ki,some vi=>(match ki.kd,vi.kd with
    | some kk,some [vk]=>if (Du ki kk vi vk) then .val [] (.v (.one (.mp h.mps.length))) { h with mps:=h.mps ++ [.here { tk:=tk,tv:=tv,kk:=kk,agg:=ki.agg,vk:=vk,x:=.nil}]} else .bad "makeMap"
    | _,_=>.bad "makeMap kinds")
   | _,_=>.bad "makeMap types")
  | _=>.bad "makeMap type")
 | .lookup t m x false=>(match T.get t,ev tm m,ev tm x with
  | some { k:=.map tk tv,.. },some (.v (.one (.mp a))),some (.v kx)=>(match nth h.mps a,T.get tk,T.get tv with
   | some (.here M),some ki,some vi=>if (uX M ki vi tk tv).and (lb ki kx) then (match cj M.kk kx.cells,iW vi with
    | some ks,some [z]=>.val [] (.v (.one (v9 (.look M.x (iC ks) z M.kk.length M.kk.length) M.vk))) h
    | _,_=>.bad "lookup data") else .bad "lookup types"
   | _,_,_=>.bad "lookup map")
  | _,_,_=>.bad "lookup")
 | .mapUpdate t m x v | .insert t m x v=>(match T.get t,ev tm m,ev tm x,ev tm v with
  | some { k:=.map tk tv,.. },some (.v (.one (.mp a))),some (.v kx),some (.v (.one c))=>(match nth h.mps a,T.get tk,T.get tv with
   | some (.here M),some ki,some vi=>if (uX M ki vi tk tv).and (lb ki kx) then (match cj M.kk kx.cells,jI M.vk c with
    | some ks,some d=>.skip [] { h with mps:=bl h.mps a (.here { M with x:=.app (iC (ks ++ [d])) M.x})}
    | _,_=>.bad "mapUpdate data") else .bad "mapUpdate types"
   | _,_,_=>.bad "mapUpdate map")
  | _,_,_,_=>.bad "mapUpdate")
 | _=>.bad "operation"
def CU (kd : List Kd) (x : X) : X:=match jY 0 kd with
 | [(j,_)]=>.shuts x j
 | _=>x
def pL (A : Ar) : List X:=match jY 0 A.K.kd with
 | [(j,_)]=>[.clean A.x j]
 | _=>[]
def osOk (kd : List Kd) : Bool:=match jY 0 kd with
 | []=>true
 | [_]=>true
 | _=>false
def ld (kn : List X) (A : Ar) : Bool:=match jY 0 A.K.kd with
 | []=>true
 | [(j,_)]=>(match X.dec kn (.clean A.x j) with | some true=>true | _=>false)
 | _=>false
def DD (kn : List X) (n x : X) : Bool:=(match x with | .rep m _=>X.same n m | _=>false).or (match X.dec kn (mkLe n (bn x)) with | some true=>true | _=>false)
def tK (kn : List X) (a : Nat) (A : Ar) : SC→SC
 | .sl b n=>if Nat.beq a b then (if DD kn n A.x then .fz A.K.shut (CU A.K.kd (dc n A.x)) else .any) else .sl b n
 | .ep b z i o=>if Nat.beq a b then .any else .ep b z i o
 | c=>c
def frzV (kn : List X) (a : Nat) (A : Ar) : SV→SV
 | .one c=>.one (tK kn a A c)
 | .agg l=>.agg (l.map (tK kn a A))
def DP (kn : List X) (a : Nat) (A : Ar) : SR→SR
 | .v x=>.v (frzV kn a A x)
 | .tup l=>.tup (l.map (frzV kn a A))
def tJ (a : Nat) (s : St) : Option St:=match nth s.h.arrs a with
 | some (.here A)=>if ld s.known A then some { s with
   tmps:=s.tmps.map (DP s.known a A)
   stk:=s.stk.map fun l=>l.map (DP s.known a A)
   h:={ s.h with regs:=s.h.regs.map (Pc.map fun l=>l.map (tK s.known a A)),arrs:=bl s.h.arrs a .go}} else none
 | _=>none
inductive PK where
 | int (k : IntKind) | bool | str | fz (K : SK) | own (e : Nat) (K : SK)
 deriving Inhabited
inductive AK where
 | one (k : PK) | agg (l : List PK) | ptr (l : List PK) | fn (f : Nat)
 deriving Inhabited
inductive RK where
 | one (k : PK) | agg (l : List PK)
 deriving Inhabited
structure Sig where
 args : List AK
 res : List RK
 deriving Inhabited
def PK.kd : PK→Kd
 | .int k=>.int k
 | .bool=>.bool
 | .str=>.str
 | .fz K | .own _ K=>.sl K.by_ K.kd
def Kd.E8 : Kd→Bool | .sl _ _=>true | .os _=>true | _=>false
def dU {α : Type} (f : α→Bool) : List α→Bool
 | []=>false
 | a :: l=>(f a).or (dU f l)
def AK.ks : AK→List PK
 | .one k=>[k]
 | .agg l | .ptr l=>l
 | .fn _=>[]
def AK.ps : AK→List PK
 | .ptr l=>l
 | _=>[]
def RK.ks : RK→List PK
 | .one k=>[k]
 | .agg l=>l
def Sig.ins (s : Sig) : List PK:=s.args.flatMap AK.ks
def Sig.outs (s : Sig) : List PK:=s.args.flatMap AK.ps ++ s.res.flatMap RK.ks
def Sig.nP (s : Sig) : Nat:=(s.args.flatMap AK.ps).length
def mkC : Nat→Nat→List PK→List SC
 | _,_,[]=>[]
 | nx,na,.int k :: l=>.int k (.var nx) :: mkC (nx + 1) na l
 | nx,na,.bool :: l=>.bool (.var nx) :: mkC (nx + 1) na l
 | nx,na,.str :: l=>.str (.var nx) :: mkC (nx + 1) na l
 | nx,na,.fz K :: l=>.fz K (.var nx) :: mkC (nx + 1) na l
 | nx,na,.own _ _ :: l=>.sl na (.len (.var nx)) :: mkC (nx + 1) (na + 1) l
def mkA : Nat→List PK→List (Pc Ar)
 | _,[]=>[]
 | nx,.own e K :: l=>.here { e:=e,K:=K,x:=.var nx} :: mkA (nx + 1) l
 | nx,_ :: l=>mkA (nx + 1) l
def oG : Nat→List AK→List SC→List SR
 | r,.one _ :: l,c :: cs=>.v (.one c) :: oG r l cs
 | r,.agg ks :: l,cs=>.v (.agg (cs.take ks.length)) :: oG r l (cs.drop ks.length)
 | r,.ptr ks :: l,cs=>.v (.one (.loc r 0)) :: oG (r + 1) l (cs.drop ks.length)
 | r,.fn f :: l,cs=>.v (.one (.fn f [])) :: oG r l cs
 | _,_,_=>[]
def dv : List AK→List SC→List (Pc (List SC))
 | .one _ :: l,_ :: cs=>dv l cs
 | .agg ks :: l,cs=>dv l (cs.drop ks.length)
 | .ptr ks :: l,cs=>.here (cs.take ks.length) :: dv l (cs.drop ks.length)
 | .fn _ :: l,cs=>dv l cs
 | _,_=>[]
def dR : List AK→List SC→List (List SC)
 | .ptr ks :: l,cs=>cs.take ks.length :: dR l (cs.drop ks.length)
 | _ :: l,cs=>dR l cs
 | [],_=>[]
def lN : List RK→List SC→List SV
 | .one _ :: l,c :: cs=>.one c :: lN l cs
 | .agg ks :: l,cs=>.agg (cs.take ks.length) :: lN l (cs.drop ks.length)
 | _,_=>[]
def wP : List SV→SR
 | [x]=>.v x
 | l=>.tup l
def Sig.aM (s : Sig) : List SR:=oG 0 s.args (mkC 0 0 s.ins)
def Sig.h0 (s : Sig) : Hp:=⟨dv s.args (mkC 0 0 s.ins),mkA 0 s.ins,[]⟩
def Sig.h1 (s : Sig) : Hp:=⟨(dR s.args (mkC s.ins.length 0 s.outs)).map .here,mkA s.ins.length s.outs,[]⟩
def Sig.C2 (s : Sig) : SR:=wP (lN s.res ((mkC s.ins.length 0 s.outs).drop s.nP))
def PK.B8 : PK→Bool
 | .fz _=>true
 | .own _ K=>dU Kd.E8 K.kd
 | _=>false
def Sig.nM (s : Sig) : Bool:=dU PK.B8 s.outs
def Sig.o0 (s : Sig) : List Kd:=s.outs.map PK.kd
def Sig.Jv (s : Sig) : List Kd:=s.ins.map PK.kd
def SK.pos (K : SK) : Bool:=(Nat.blt 0 K.by_).and (Nat.blt 0 K.kd.length)
structure Mt where
 need : List X
 data : List X
 own : List (Option Nat)
 G4 : List Nat
 deriving Inhabited
def mtC (h : Hp) : PK→SC→Option Mt
 | .int k,.int j x=>if IntKind.same k j then some ⟨[],[x],[],[]⟩ else none
 | .bool,.bool x=>some ⟨[],[x],[],[]⟩
 | .str,.str x=>some ⟨[],[x],[],[]⟩
 | .fz K,c=>if (iM K.kd).not then none else (match nZ h K c with
  | some (ns,x)=>some ⟨ns,[x],[],match c with | .sl a _=>[a] | _=>[]⟩
  | none=>none)
 | .own e K,.sl a n=>(match nth h.arrs a with
  | some (.here A)=>if (Nat.beq A.e e).and ((SK.same A.K K).and (osOk A.K.kd)) then some ⟨mkLe n (bn A.x) :: pL A,[dc n A.x],[some a],[]⟩ else none
  | _=>none)
 | .own _ K,.nilsl=>if K.pos then some ⟨[],[.nil],[none],[]⟩ else none
 | .own _ K,.z0=>if K.pos then some ⟨[],[.nil],[none],[]⟩ else none
 | _,_=>none
def pe (h : Hp) : List PK→List SC→Option Mt
 | [],[]=>some ⟨[],[],[],[]⟩
 | k :: l,c :: cs=>(match mtC h k c,pe h l cs with | some m,some n=>some ⟨m.need ++ n.need,m.data ++ n.data,m.own ++ n.own,m.G4 ++ n.G4⟩ | _,_=>none)
 | _,_=>none
def fm (h : Hp) : List AK→List SR→Option (List SC × List (Nat × Nat))
 | [],[]=>some ([],[])
 | .one _ :: l,.v (.one c) :: rs=>(match fm h l rs with | some (cs,ps)=>some (c :: cs,ps) | none=>none)
 | .agg ks :: l,.v (.agg c) :: rs=>if Nat.beq c.length ks.length then (match fm h l rs with | some (cs,ps)=>some (c ++ cs,ps) | none=>none) else none
 | .ptr ks :: l,.v (.one (.loc r o)) :: rs=>(match nth h.regs r with
  | some (.here old)=>(match ga old o ks.length,fm h l rs with
   | some c,some (cs,ps)=>some (c ++ cs,(r,o) :: ps)
   | _,_=>none)
  | _=>none)
 | .fn f :: l,.v (.one (.fn k [])) :: rs=>if Nat.beq f k then fm h l rs else none
 | _,_=>none
def Cc : List PK→List SC→Option Nat
 | .fz _ :: _,.sl a _ :: _=>some a
 | _ :: l,_ :: m=>Cc l m
 | _,_=>none
def E9 (h : Hp) : List PK→List SC→Option Nat
 | .fz _ :: l,.sl a _ :: m=>(match nth h.arrs a with | some (.here A)=>if iM A.K.kd then E9 h l m else some a | _=>E9 h l m)
 | _ :: l,_ :: m=>E9 h l m
 | _,_=>none
def di : List (Option Nat)→List Nat
 | []=>[]
 | some a :: l=>a :: di l
 | none :: l=>di l
def fh (arrs : List (Pc Ar)) : List Nat→List (Pc Ar)
 | []=>arrs
 | a :: l=>fh (bl arrs a .go) l
def dq : List (Pc (List SC))→List (Nat × Nat)→List (List SC)→List (Pc (List SC))
 | regs,(r,o) :: ps,c :: cs=>dq (match nth regs r with | some (.here old)=>bl regs r (.here (cq old o c)) | _=>regs) ps cs
 | regs,_,_=>regs
abbrev CT:=List (Nat × Sig)
def CT.get : CT→Nat→Option Sig
 | [],_=>none
 | (u,i) :: l,t=>if Nat.beq u t then some i else CT.get l t
abbrev FT:=List (Nat × Func)
def FT.get : FT→Nat→Option Func
 | [],_=>none
 | (u,i) :: l,t=>if Nat.beq u t then some i else FT.get l t
def SC.under (n : Nat) : SC→Bool
 | .int _ x | .bool x | .str x | .fz _ x | .sl _ x=>x.under n
 | .fp _ x i _ | .sub _ _ x i=>(x.under n).and (i.under n)
 | .ep _ _ i _=>i.under n
 | _=>true
def SV.under (n : Nat) : SV→Bool
 | .one c=>c.under n
 | .agg l=>dD (SC.under n) l
def SR.under (n : Nat) : SR→Bool
 | .v x=>x.under n
 | .tup l=>dD (SV.under n) l
def Hp.under (n : Nat) (h : Hp) : Bool :=
 (dD (Pc.all (dD (SC.under n))) h.regs).and ((dD (Pc.all fun A=>A.x.under n) h.arrs).and (dD (Pc.all fun A=>A.x.under n) h.mps))
def St.fine (s : St) : Bool:=(dD (SR.under s.nx) s.tmps).and ((dD (dD (SR.under s.nx)) s.stk).and ((s.h.under s.nx).and (dD (X.under s.nx) s.known)))
inductive HK where
 | any | lt | own (e : Nat) (K : SK) | fz (K : SK) | li
 deriving Inhabited
structure Hint where
 fn : Nat
 reg : Nat
 unroll : Bool
 ts : List (Nat × HK)
 rs : List (Nat × Nat × HK)
 fr : List Nat
 mp : List Nat:=[]
 at_ : Nat:=0
 lo : Nat:=0
 join : Bool:=false
 deriving Inhabited
def Ck (H : Hint) (s : St) : St:=if Nat.ble s.nx H.lo then { s with nx:=H.lo} else s
def Ig : Code→Option Nat
 | .region id _ _=>some id
 | .seq a b=>match Ig a with | some n=>some n | none=>Ig b
 | .cond _ a b=>match Ig a with | some n=>some n | none=>Ig b
 | .block _ c | .loop c | .scope c=>Ig c
 | _=>none
def zS : Code→List Nat
 | .region _ ops _=>ops.toList.filterMap (·.dst)
 | .seq a b=>zS a ++ zS b
 | .cond _ a b=>zS a ++ zS b
 | .block _ c | .loop c | .scope c=>zS c
 | _=>[]
def xW (f r n : Nat) : List Hint→Option Hint
 | []=>none
 | x :: l=>if (Nat.beq x.fn f).and ((Nat.beq x.reg r).and (x.join.not.and ((Nat.beq x.at_ 0).or (Nat.beq x.at_ n)))) then some x else xW f r n l
def xV (f r : Nat) : List Hint→Option Hint
 | []=>none
 | x :: l=>if x.join.and ((Nat.beq x.fn f).and (Nat.beq x.reg r)) then some x else xV f r l
def joinAt (f : Nat) (b : Code) (l : List Hint) : Option Hint:=match Ig b with
 | some r=>xV f r l
 | none=>none
structure Hd where
 nx : Nat
 h : Hp
 ks : List Kd
 ok : Bool
 al : List (Nat × SC):=[]
def Hd.jd (d : Hd) (k : Kd) (_ : X) : Hd:={ d with nx:=d.nx + 1,ks:=d.ks ++ [k]}
def DL (k : HK) (c : SC) (d : Hd) : SC × Hd :=
 match k,c with
 | .any,_=>(.any,d)
 | .li,_=>(.int .i64 (.var d.nx),d.jd (.int .i64) .nil)
 | .lt,.int k x=>(.int k (.var d.nx),d.jd (.int k) x)
 | .lt,.bool x=>(.bool (.var d.nx),d.jd .bool x)
 | .lt,.str x=>(.str (.var d.nx),d.jd .str x)
 | .lt,.fz K x=>(.fz K (.var d.nx),d.jd (.sl K.by_ K.kd) x)
 | .fz K,.fz _ x=>(.fz K (.var d.nx),d.jd (.sl K.by_ K.kd) x)
 | .fz K,.nilsl=>(.fz K (.var d.nx),d.jd (.sl K.by_ K.kd) .nil)
 | .fz K,.z0=>(.fz K (.var d.nx),d.jd (.sl K.by_ K.kd) .nil)
 | .own e K,.nilsl=>(.sl d.h.arrs.length (.len (.var d.nx)),{ d.jd (.sl K.by_ K.kd) .nil with ok:=d.ok.and K.pos,h:={ d.h with arrs:=d.h.arrs ++ [.here { e:=e,K:=K,x:=.var d.nx}]}})
 | .own e K,.sl b n=>(match nth d.h.arrs b with
   | some (.here A)=>(.sl d.h.arrs.length (.len (.var d.nx)),{ d.jd (.sl K.by_ K.kd) (dc n A.x) with h:={ d.h with arrs:=(bl d.h.arrs b .go) ++ [.here { e:=e,K:=K,x:=.var d.nx}]},al:=(b,.sl d.h.arrs.length (.len (.var d.nx))) :: d.al})
   | _=>(match fk b d.al with | some c'=>(c',d) | none=>(c,{ d with ok:=false})))
 | _,c=>(c,{ d with ok:=false})
def zO (h : Hint) (ds : List Nat) : Nat→List SR→Hd→List SR × Hd
 | _,[],d=>([],d)
 | i,t :: l,d =>
  let (t',d):=match fk i h.ts,t with
   | some k,.v (.one c)=>(match DL k c d with | (c,d)=>(SR.v (.one c),d))
   | some .any,_=>(SR.v (.one .any),d)
   | some _,_=>(t,{ d with ok:=false})
   | none,t=>if rI i ds then (SR.v (.one .any),d) else (t,d)
  match zO h ds (i + 1) l d with | (l',d)=>(t' :: l',d)
def A5 (h : Hint) (r : Nat) : Nat→List SC→Hd→List SC × Hd
 | _,[],d=>([],d)
 | o,c :: l,d =>
  let (c',d):=match lookR r o h.rs with
   | some k=>DL k c d
   | none=>(c,d)
  match A5 h r (o + 1) l d with | (l',d)=>(c' :: l',d)
def wj (h : Hint) : Nat→List (Pc (List SC))→Hd→List (Pc (List SC)) × Hd
 | _,[],d=>([],d)
 | r,.here cs :: l,d=>(match A5 h r 0 cs d with
  | (cs',d)=>match wj h (r + 1) l d with | (l',d)=>(.here cs' :: l',d))
 | r,_ :: l,d=>(match wj h (r + 1) l d with | (l',d)=>(.go :: l',d))
def xL (h : Hint) : Nat→List (Pc Mp)→Hd→List (Pc Mp) × Hd
 | _,[],d=>([],d)
 | a,.here M :: l,d=>if rI a h.mp then (match xL h (a + 1) l (d.jd (.sl 0 (M.kk ++ [M.vk])) .nil) with | (l',d')=>(.here { M with x:=.var d.nx} :: l',d'))
  else (match xL h (a + 1) l d with | (l',d')=>(.here M :: l',d'))
 | a,x :: l,d=>(match xL h (a + 1) l d with | (l',d')=>(x :: l',d'))
structure LI where
 hd : St
 nx0 : Nat
 r0 : Nat
 a0 : Nat
 ks : List Kd
structure Sub where
 ls : List (Nat × Kd × X)
 as : List (Nat × Nat)
 no : List Nat
def Sub.fail (b : Sub) (l : List Nat) : Sub:={ b with no:=7 :: (b.no ++ l)}
def Sub.gD (b : Sub) (i : Nat) (k : Kd) (x : X) : Sub:={ b with ls:=(i,k,x) :: b.ls}
def pq (L : LI) (i : Nat) : Bool:=(Nat.blt L.nx0 i).and (Nat.blt i L.hd.nx)
def SC.old (L : LI) (c : SC) : Bool:=(c.under L.nx0).and (match c with
 | .sl a _ | .ep a _ _ _ | .sub a _ _ _=>Nat.blt a L.a0
 | .loc r _=>Nat.blt r L.r0
 | .fn _ caps=>dD (fun (x : Nat × Nat)=>Nat.blt x.1 L.r0) caps
 | .mp a=>Nat.blt a L.hd.h.mps.length
 | _=>true)
def SV.old (L : LI) : SV→Bool
 | .one c=>c.old L
 | .agg l=>dD (SC.old L) l
def SR.old (L : LI) : SR→Bool
 | .v x=>x.old L
 | .tup l=>dD (SV.old L) l
def mO (L : LI) (w : List Nat) (hc c : SC) (b : Sub) : Sub:=if (SC.same hc c).and (hc.old L) then b else b.fail w
def bkC (L : LI) (s : St) (w : List Nat) (hc c : SC) (b : Sub) : Sub :=
 match hc with
 | .any=>b
 | .int k (.var i)=>if pq L i then (match c with | .int j x=>if IntKind.same k j then b.gD i (.int k) x else b.fail w | _=>b.fail w) else mO L w hc c b
 | .bool (.var i)=>if pq L i then (match c with | .bool x=>b.gD i .bool x | _=>b.fail w) else mO L w hc c b
 | .str (.var i)=>if pq L i then (match c with | .str x=>b.gD i .str x | _=>b.fail w) else mO L w hc c b
 | .fz K (.var i)=>if pq L i then (match c with
   | .fz J x=>if (SK.same K J).and (iM K.kd) then b.gD i (.sl K.by_ K.kd) x else b.fail w
   | .nilsl | .z0=>b.gD i (.sl K.by_ K.kd) .nil
   | _=>b.fail w) else mO L w hc c b
 | .sl a (.len (.var i))=>if (pq L i).and (Nat.ble L.a0 a) then (match nth L.hd.h.arrs a with
   | some (.here A)=>if X.same A.x (.var i) then (match c with
    | .sl a' n=>(match nth s.h.arrs a' with
     | some (.here B)=>(match X.dec s.known (mkLe n (bn B.x)) with
      | some true=>(match fk a b.as,fk i b.ls with
       | some c',some (_,x)=>if (Nat.beq c' (a' + 1)).and (X.same x (dc n B.x)) then b else b.fail w
       | _,_=>if (Nat.beq A.e B.e).and ((SK.same A.K B.K).and (ld s.known B)) then { b.gD i (.sl A.K.by_ A.K.kd) (dc n B.x) with as:=(a,a' + 1) :: b.as} else b.fail w)
      | _=>b.fail w)
     | _=>b.fail w)
    | .nilsl=>if A.K.pos then { b.gD i (.sl A.K.by_ A.K.kd) .nil with as:=(a,0) :: b.as} else b.fail w
    | _=>b.fail w) else b.fail w
   | _=>b.fail w)
  else mO L w hc c b
 | hc=>mO L w hc c b
def bkR (L : LI) (s : St) (w : List Nat) (hc c : SR) (b : Sub) : Sub:=match hc,c with
 | .v (.one .any),_=>b
 | .v (.one hc),.v (.one c)=>bkC L s w hc c b
 | hc,c=>if (SR.same hc c).and (hc.old L) then b else b.fail w
def mM (L : LI) (s : St) : Nat→List SR→List SR→Sub→Sub
 | _,[],[],b=>b
 | i,t :: l,u :: m,b=>mM L s (i + 1) l m (bkR L s [1,i] t u b)
 | _,_,_,b=>b.fail [1]
def IK (L : LI) (s : St) (r : Nat) : Nat→List SC→List SC→Sub→Sub
 | _,[],[],b=>b
 | o,c :: l,d :: m,b=>IK L s r (o + 1) l m (bkC L s [2,r,o] c d b)
 | _,_,_,b=>b.fail [2,r]
def fq (L : LI) (s : St) : Nat→List (Pc (List SC))→List (Pc (List SC))→Sub→Sub
 | _,[],_,b=>b
 | r,.here c :: l,.here d :: m,b=>fq L s (r + 1) l m (IK L s r 0 c d b)
 | r,.go :: l,_ :: m,b=>fq L s (r + 1) l m b
 | r,_,_,b=>b.fail [2,r]
def jP (L : LI) (s : St) : Nat→List (Pc Ar)→Sub→Sub
 | _,[],b=>b
 | a,.go :: l,b=>jP L s (a + 1) l b
 | a,.fr :: l,b=>jP L s (a + 1) l (b.fail [3,a])
 | a,.here A :: l,b=>jP L s (a + 1) l (if Nat.blt a L.a0 then (match nth s.h.arrs a with
   | some (.here B)=>if ((Nat.beq A.e B.e).and ((SK.same A.K B.K).and (ld s.known B))).and ((X.same A.x B.x).and (A.x.under L.nx0)) then b else b.fail [3,a]
   | _=>b.fail [3,a]) else (match fk a b.as with | some _=>b | none=>b.fail [3,a]))
def ET (A B : Mp) : Bool:=((Nat.beq A.tk B.tk).and (Nat.beq A.tv B.tv)).and (((Kd.lG A.kk B.kk).and (Kd.same A.vk B.vk)).and (gC A.agg B.agg))
def Cn (L : LI) (A B : Mp) (b : Sub) : Sub:=if ET A B then (if (X.same A.x B.x).and (A.x.under L.nx0) then b else (match A.x with
  | .var i=>if pq L i then b.gD i (.sl 0 (A.kk ++ [A.vk])) B.x else b.fail [5]
  | _=>b.fail [5])) else b.fail [5]
def pP (L : LI) : List (Pc Mp)→List (Pc Mp)→Sub→Sub
 | [],_,b=>b
 | .here A :: l,.here B :: m,b=>pP L l m (Cn L A B b)
 | .go :: l,.go :: m,b=>pP L l m b
 | _,_,b=>b.fail [5]
def vG (L : LI) (t u : SR) : Bool:=match t with
 | .v (.one .any)=>true
 | t=>(SR.same t u).and (t.old L)
def yo (L : LI) (l m : List (List SR)) : Bool:=gp (gp (vG L)) l m
def Kw (L : LI) (b : Sub) : Nat→List (Pc Ar)→List Nat
 | _,[]=>[]
 | a,.fr :: l | a,.go :: l=>Kw L b (a + 1) l
 | a,.here _ :: l=>(if Nat.blt a L.a0 then [a] else (match fk a b.as with | some (c + 1)=>[c] | _=>[])) ++ Kw L b (a + 1) l
def collect (ls : List (Nat × Kd × X)) : Nat→List Kd→Option (List X)
 | _,[]=>some []
 | i,k :: ks=>match fk i ls,collect ls (i + 1) ks with
  | some (k',x),some l=>if Kd.same k k' then some (x :: l) else none
  | _,_=>none
def holds (L : LI) (s : St) : Sub :=
 let b:=jP L s 0 L.hd.h.arrs (fq L s 0 L.hd.h.regs s.h.regs (mM L s 0 L.hd.tmps s.tmps (pP L L.hd.h.mps s.h.mps ⟨[],[],[]⟩)))
 if ((yo L L.hd.stk s.stk).and (eJ (Kw L b 0 L.hd.h.arrs))).and (((eJ (b.ls.map (·.1))).and (eJ (b.as.map (·.1)))).and ((Nat.ble L.a0 L.hd.h.arrs.length).and ((Nat.beq L.r0 L.hd.h.regs.length).and (Nat.beq L.hd.nx (L.nx0 + 1 + L.ks.length))))) then b else b.fail [4]
def pS (L : LI) (s : St) : Tree :=
 let b:=holds L s
 match b.no with
 | []=>(match collect b.ls (L.nx0 + 1) L.ks with
  | some cs=>.back L.nx0 cs
  | none=>.bad "letters" [])
 | l=>.bad "round" (L.hd.fn :: l)
inductive It where
 | code (c : Code)
 | blk (id : Nat)
 | ops (l : List Oper) (all : List Oper)
 | again (body : Code)
 | round (L : LI)
 | fin (k : St→Tree)
def jn (id : Nat) : List It→Option (List It)
 | []=>none
 | .blk j :: k=>if Nat.beq j id then some k else jn id k
 | .fin _ :: _=>none
 | _ :: k=>jn id k
def w8 : List It→Option (St→Tree)
 | []=>none
 | .fin k :: _=>some k
 | _ :: k=>w8 k
def fy : List X→List X→Tree→Tree
 | _,[],t=>t
 | known,b :: l,t=>match X.dec known b with
  | some true=>fy known l t
  | some false=>.bad "a need that is false" []
  | none=>.need b (fy (b :: known) l t)
def df (known : List X) : List X→List X
 | []=>known
 | b :: l=>match X.dec known b with
  | some true=>df known l
  | _=>df (b :: known) l
def oY (T : TT) (h : Hp) (tm : List SR) : List ResultVar→Option (List SV)
 | []=>some []
 | .tmp t :: l=>match nth tm t,oY T h tm l with
  | some (.v x),some m=>some (x :: m)
  | _,_=>none
 | .cell t ty :: l=>match nth tm t,oY T h tm l with
  | some (.v (.one (.loc r o))),some m=>(match loadAt T h ty (.v (.one (.loc r o))) with
   | .val [] (.v x) _ _=>some (x :: m)
   | _=>none)
  | _,_=>none
def jX (tm : List SR) (d : Option Nat) (r : SR) : List SR:=match d with
 | some d=>bl tm d r
 | none=>tm
def yY (a : Nat) (i : X) (o : Nat) (s : St) : Option (List X × St):=match nth s.h.arrs a with
 | some (.here A)=>(match nth A.K.kd o with
  | some (.os e)=>some (dF i (bn A.x) ++ [.isO (cD A.x i o)],{ s with h:={ s.h with arrs:=bl s.h.arrs a (.here { A with x:=mkSet A.x i o (.ref s.h.arrs.length (.len (.shut (cD A.x i o))))}) ++ [.here { e:=e,K:=wa,x:=.shut (cD A.x i o)}]}})
  | _=>none)
 | _=>none
def o7 (a : Nat) (i : X) (o : Nat) (s : St) (again : St→Tree) : Tree:=match yY a i o s with
 | some (ns,s')=>fy s.known ns (again { s' with known:=df s.known ns})
 | none=>.bad "open" [a]
def dK : Nat→List (Pc Ar)→Option (Nat × Nat × Nat × X × Nat × X)
 | _,[]=>none
 | a,.here A :: l=>(match jY 0 A.K.kd with
  | [(j,e)]=>(match pt j A.x with
   | some (i,b,n)=>some (a,j,e,i,b,n)
   | none=>dK (a + 1) l)
  | _=>dK (a + 1) l)
 | a,_ :: l=>dK (a + 1) l
def wA (a j e : Nat) (i : X) (b : Nat) (n : X) (s : St) : Option (List X × St):=match nth s.h.arrs a,nth s.h.arrs b with
 | some (.here A),some (.here S)=>if ((SK.same S.K wa).and (Nat.beq S.e e)).and (Nat.beq a b).not then
   some (dF i (bn A.x) ++ [mkLe (.int 0) (mkAdd (.int 0) n),mkLe (mkAdd (.int 0) n) (bn S.x)],{ s with h:={ s.h with arrs:=bl (bl s.h.arrs a (.here { A with x:=oK j (.own (dc (mkAdd (.int 0) n) S.x)) A.x})) b .go}})
  else none
 | _,_=>none
def fV : Nat→St→(St→Tree)→Tree
 | 0,s,k=>k s
 | m + 1,s,k=>(match dK 0 s.h.arrs with
  | none=>k s
  | some (a,j,e,i,b,n)=>(match wA a j e i b n s with
   | some (ns,s')=>fy s.known ns (fV m { s' with known:=df s.known ns} k)
   | none=>.bad "close" [a,b]))
def vK : List (Pc Ar)→List X
 | []=>[]
 | .here A :: l=>pL A ++ vK l
 | _ :: l=>vK l
def frzNs (a : Nat) (s : St) : List X:=match nth s.h.arrs a with
 | some (.here A)=>pL A
 | _=>[]
def lp (a : Nat) (s : St) (k : St→Tree) : Tree:=fy s.known (frzNs a s) (match tJ a { s with known:=df s.known (frzNs a s)} with
 | some s=>k s
 | none=>.bad "freeze" [a])
def K2 (a b : Nat) (i n : X) (s : St) : List X:=match nth s.h.arrs a,nth s.h.arrs b with
 | some (.here A),some (.here S)=>dF i (bn A.x) ++ [mkLe (.int 0) (mkAdd (.int 0) n),mkLe (mkAdd (.int 0) n) (bn S.x)]
 | _,_=>[]
def zA (a j e b : Nat) (n : X) (s : St) : Option St:=match nth s.h.arrs a,nth s.h.arrs b with
 | some (.here A),some (.here S)=>if ((SK.same S.K wa).and (Nat.beq S.e e)).and (Nat.beq a b).not then (match tJ b s with
  | some t=>some { t with h:={ t.h with arrs:=bl t.h.arrs a (.here { A with x:=oK j (dc (mkAdd (.int 0) n) S.x) A.x})}}
  | none=>none) else none
 | _,_=>none
def je : List Nat→St→(St→Tree)→Tree
 | [],s,k=>k s
 | b :: l,s,k=>(match dK 0 s.h.arrs with
  | some (a,j,e,i,c,n)=>if Nat.beq b c then fy s.known (K2 a b i n s) (match zA a j e b n { s with known:=df s.known (K2 a b i n s)} with
   | some t=>je l t k
   | none=>.bad "lend" [a,b]) else je l s k
  | none=>je l s k)
structure Cx where
 T : TT
 C : CT
 F : FT
 hints : List Hint
 sig : Sig
def pE (h : Hp) : Nat→List AK→Option (List SC)
 | _,[]=>some []
 | r,.ptr ks :: l=>(match nth h.regs r,pE h (r + 1) l with
  | some (.here cs),some m=>if Nat.beq cs.length ks.length then some (cs ++ m) else none
  | _,_=>none)
 | r,_ :: l=>pE h r l
def lI : List RK→List SV→Option (List SC)
 | [],[]=>some []
 | .one _ :: l,.one c :: vs=>(match lI l vs with | some m=>some (c :: m) | none=>none)
 | .agg ks :: l,.agg c :: vs=>if Nat.beq c.length ks.length then (match lI l vs with | some m=>some (c ++ m) | none=>none) else none
 | _,_=>none
def rQ (Z : Cx) (res : List ResultVar) : Nat→St→Tree
 | 0,_=>.bad "fuel" []
 | n + 1,s=>match oY Z.T s.h s.tmps res with
  | none=>.bad "results" []
  | some vals=>match pE s.h 0 Z.sig.args,lI Z.sig.res vals with
   | some cs,some ds=>(match Cc Z.sig.outs (cs ++ ds) with
    | some a=>lp a s (fun s=>rQ Z res n s)
    | none=>match pe s.h Z.sig.outs (cs ++ ds) with
     | none=>.bad "results kinds" []
     | some m=>if eJ (di m.own) then fy s.known m.need (.ret m.data) else .bad "one array twice" [])
   | _,_=>.bad "results forms" []
def bt (Z : Cx) (res : List ResultVar) (n : Nat) (s : St) : Tree:=fV 8 s (rQ Z res n)
def guardOf (all : List Oper) (tm : List SR) (o : Oper) : Option (Option X × Bool) :=
 match o.guard with
 | none=>some (none,true)
 | some (j,want)=>match nth all j with
  | some oj=>(match oj.dst with
   | some d=>(match nth tm d with
    | some (.v (.one (.bool b)))=>some (some b,want)
    | some (.v (.one .undef))=>some (some (.bool want.not),want)
    | _=>none)
   | none=>none)
  | none=>none
def nY (b : X) (s : St) (k : St→Tree) : Tree:=.ite b (k { s with known:=X.lL b ++ s.known}) (k { s with known:=X.lL (neg b) ++ s.known})
def written (b : X) (c : Bool) (s : St) : St:={ s with tmps:=s.tmps.map fun r=>match r with | .v (.one (.bool d))=>if X.same d b then .v (.one (.bool (.bool c))) else r | r=>r}
def D6 (s : St) (dst : Option Nat) (f : Nat) (sg : Sig) (args : List SR) (again next : St→Tree) : Tree :=
 match fm s.h sg.args args with
 | none=>.bad "arguments" [f]
 | some (cs,ps)=>match (if sg.nM then Cc sg.ins cs else E9 s.h sg.ins cs) with
  | some a=>lp a s again
  | none=>match pe s.h sg.ins cs with
   | none=>.bad "arguments kinds" [f]
   | some m=>if ((eJ (di m.own)).and (dU (fun a=>rI a (di m.own)) m.G4).not).and ((eJ (ps.map (·.1))).and s.fine) then
     let cells:=mkC s.nx s.h.arrs.length sg.outs
     fy s.known m.need (.call f m.data s.nx (next { s with
      tmps:=jX s.tmps dst (wP (lN sg.res (cells.drop sg.nP)))
      h:={ s.h with regs:=dq s.h.regs ps (dR sg.args cells),arrs:=fh s.h.arrs (di m.own) ++ mkA s.nx sg.outs}
      nx:=s.nx + sg.outs.length}))
    else .bad "arguments" [f]
def Sig.quiet (s : Sig) : Bool:=(dU (fun (k : AK)=>match k with | .ptr _=>true | _=>false) s.args).not.and (dU (fun (k : PK)=>match k with | .own _ _=>true | _=>false) s.ins).not
def nilT (n : X) (neg : Bool) (s : St) (d : Option Nat) (next : St→Tree) : Tree :=
 .ite (mkEq n (.int 0)) (.both (next { s with tmps:=jX s.tmps d (.v (.one (.bool (.bool neg.not)))),known:=X.lL (mkEq n (.int 0)) ++ s.known}) (next { s with tmps:=jX s.tmps d (.v (.one (.bool (.bool neg)))),known:=X.lL (mkEq n (.int 0)) ++ s.known}))
  (next { s with tmps:=jX s.tmps d (.v (.one (.bool (.bool neg)))),known:=X.lL (Go.Sy.neg (mkEq n (.int 0))) ++ s.known})
def pX (Z : Cx) (inl : Func→Nat→List SR→Option Nat→St→(St→Tree)→Tree) (fp : Bool) (sr sa : Nat) (s : St) (o : Oper) (all : List Oper) (again next : St→Tree) : Tree :=
 match guardOf all s.tmps o with
 | none=>.bad "guard" []
 | some (g,want) =>
  match (match g with | none=>some true | some b=>(match X.dec s.known b with | some x=>some (if want then x else x.not) | none=>none)) with
  | none=>(match g with | some b=>nY b s again | none=>.bad "guard" [])
  | some false=>next { s with tmps:=jX s.tmps o.dst (.v (.one .undef))}
  | some true=>match aop Z.T s.tmps s.h sr sa o.op with
   | .val ns r h q=>if fp.and q.not then .bad "not quiet" [] else fy s.known ns (next { s with tmps:=jX s.tmps o.dst r,h:=h,known:=df s.known ns})
   | .skip ns h=>if fp then .bad "a store" [] else fy s.known ns (next { s with tmps:=jX s.tmps o.dst (.v (.one .undef)),h:=h,known:=df s.known ns})
   | .ask b=>(match X.dec s.known b with
    | some c=>again (written b c s)
    | none=>nY b s again)
   | .frz a=>lp a s again
   | .opn a i o=>o7 a i o s again
   | .nilq n neg=>nilT n neg s o.dst next
   | .call f args=>(match Z.C.get f with
    | some sg=>if fp.and sg.quiet.not then .bad "a call that changes" [f] else D6 s o.dst f sg args again next
    | none=>(match Z.F.get f with
     | some fn=>if fp then .bad "a call walked through drawn" [f] else inl fn f args o.dst s next
     | none=>.bad "no contract" [f]))
   | .bad why=>.bad why [o.dst.getD 999]
def Au (Z : Cx) (s : St) (o : Oper) (all : List Oper) (again next : St→Tree) : Tree :=
 match guardOf all s.tmps o with
 | none=>.bad "guard" []
 | some (g,want) =>
  match (match g with | none=>some true | some b=>(match X.dec s.known b with | some x=>some (if want then x else x.not) | none=>none)) with
  | none=>(match g with | some b=>nY b s again | none=>.bad "guard" [])
  | some false=>next { s with tmps:=jX s.tmps o.dst (.v (.one .undef))}
  | some true=>match aop Z.T s.tmps s.h 0 0 o.op with
   | .val ns r _ _=>fy s.known ns (next { s with tmps:=jX s.tmps o.dst r,known:=df s.known ns})
   | .ask b=>(match X.dec s.known b with
    | some c=>again (written b c s)
    | none=>nY b s again)
   | .frz a=>lp a s again
   | .opn a i o=>o7 a i o s again
   | .nilq n neg=>nilT n neg s o.dst next
   | .bad why=>.bad why [o.dst.getD 999]
   | _=>.bad "no reading" [o.dst.getD 999]
def Ar.same (A B : Ar) : Bool:=(Nat.beq A.e B.e).and ((SK.same A.K B.K).and (X.same A.x B.x))
def Mp.same (A B : Mp) : Bool:=((Nat.beq A.tk B.tk).and (Nat.beq A.tv B.tv)).and (((Kd.lG A.kk B.kk).and (gC A.agg B.agg)).and ((Kd.same A.vk B.vk).and (X.same A.x B.x)))
def Hp.same (h k : Hp) : Bool:=(bK (Pc.same (bK SC.same)) h.regs k.regs).and ((bK (Pc.same Ar.same) h.arrs k.arrs).and (bK (Pc.same Mp.same) h.mps k.mps))
def St.same (s t : St) : Bool:=((Nat.beq s.fn t.fn).and (Nat.beq s.nx t.nx)).and ((bK SR.same s.tmps t.tmps).and ((bK (bK SR.same) s.stk t.stk).and (Hp.same s.h t.h)))
def Tree.same : Tree→Tree→Bool
 | .ret o,.ret p=>bK X.same o p
 | .ite b t e,.ite c u f=>(X.same b c).and ((Tree.same t u).and (Tree.same e f))
 | .need b t,.need c u=>(X.same b c).and (Tree.same t u)
 | .call f a lo t,.call g b mo u=>((Nat.beq f g).and (Nat.beq lo mo)).and ((bK X.same a b).and (Tree.same t u))
 | .loop i ks l t,.loop j ms m u=>((Nat.beq i j).and (Kd.lG ks ms)).and ((bK X.same l m).and (Tree.same t u))
 | .back i l,.back j m=>(Nat.beq i j).and (bK X.same l m)
 | .join i ks t u,.join j ms v x=>((Nat.beq i j).and (Kd.lG ks ms)).and ((Tree.same t v).and (Tree.same u x))
 | .both a b,.both c d=>(Tree.same a c).and (Tree.same b d)
 | .leaf s,.leaf t=>(St.same s t).and (bK X.same s.known t.known)
 | _,_=>false
def Bi (t u : Tree) : Tree:=if Tree.same t u then t else .both t u
def allT : List Tree→Tree
 | []=>.bad "none" []
 | [t]=>t
 | t :: l=>Bi t (allT l)
def nT (n0 : Nat) (k : St→Tree) : Tree→Tree
 | .leaf s=>k s
 | .ret o=>.ret o
 | .ite b t e=>.ite b (nT n0 k t) (nT n0 k e)
 | .need b t=>.need b (nT n0 k t)
 | .call f a lo t=>.call f a lo (nT n0 k t)
 | .loop id ks i t=>if Nat.ble n0 id then .loop id ks i (nT n0 k t) else .bad "loop" []
 | .back id c=>.back id c
 | .join _ _ _ _=>.bad "join" []
 | .both a b=>Bi (nT n0 k a) (nT n0 k b)
 | .bad w l=>.bad w l
def calm (Z : Cx) (l : List Oper) : Bool:=(dU (fun (o : Oper)=>match o.op with
 | .call ⟨.value (.func f),_,_⟩=>(match Z.C.get f with | some sg=>sg.quiet.not | none=>false)
 | .call ⟨.value (.tmp _),_,_⟩=>(match o.guard with | some _=>true | none=>false)
 | _=>false) l).not
def gi (o : Oper) : Bool:=(reads o).and (match o.op with | .load _ _=>false | _=>true)
def ni (o : Oper) : Bool:=match o.op with | .store _ _ _=>true | _=>false
def qU (ops : Array Oper) (m md i : Nat) : Bool:=(Nat.beq md 3).not.or ((inF ops m i).not.or (match ops[i]? with | some o=>gi o | none=>false))
def gL (ops : Array Oper) (m md i : Nat) : Nat:=if (Nat.beq md 0).or (inF ops m i) then md else (match ops[i]? with
 | some o=>if gi o then md else if ni o then (if Nat.beq md 1 then 2 else md) else 3
 | none=>3)
def still (ops : Array Oper) (m md i : Nat) : Bool:=((Nat.beq md 0).or (Nat.beq md 3)).not.and (inF ops m i)
def mZ (Z : Cx) (ops : Array Oper) (m rb ab : Nat) (i md : Nat) (s : St) : Option (List X × St) :=
 match nth ops.toList i with
 | none=>none
 | some o=>if (qU ops m md i).not then none else
  match guardOf ops.toList s.tmps o with
  | none=>none
  | some (g,want) =>
   match (match g with | none=>some true | some b=>(match X.dec s.known b with | some x=>some (if want then x else x.not) | none=>none)) with
   | none=>none
   | some false=>some ([],{ s with tmps:=jX s.tmps o.dst (.v (.one .undef))})
   | some true=>match aop Z.T s.tmps s.h (rb + i) (ab + i) o.op with
    | .val ns r h q=>if (still ops m md i).and q.not then none else some (ns,{ s with tmps:=jX s.tmps o.dst r,h:=h,known:=df s.known ns})
    | .skip ns h=>if still ops m md i then none else some (ns,{ s with tmps:=jX s.tmps o.dst (.v (.one .undef)),h:=h,known:=df s.known ns})
    | _=>none
def Ea (Z : Cx) (ops : Array Oper) (rb ab : Nat) (i : Nat) (s : St) : Option (X × Bool):=match nth ops.toList i with
 | none=>none
 | some o=>(match aop Z.T s.tmps s.h (rb + i) (ab + i) o.op with
  | .ask b=>(match X.dec s.known b with | some c=>some (b,c) | none=>none)
  | _=>none)
def mY (Z : Cx) (ops : Array Oper) (m rb ab : Nat) (i md : Nat) (s : St) : Option (List X × St):=match mZ Z ops m rb ab i md s with
 | some r=>some r
 | none=>(match Ea Z ops rb ab i s with
  | some (b,c)=>mZ Z ops m rb ab i md (written b c s)
  | none=>none)
abbrev Sts:=List (Array Bool × Nat × St)
def xB (a b : Array Bool) : Bool:=bK gC a.toList b.toList
def yx (mask : Array Bool) (md : Nat) (s : St) : Sts→Option Sts
 | []=>some [(mask,md,s)]
 | (m,d,t) :: l=>if xB m mask then (if (Nat.beq md d).and (St.same t s) then some ((m,d,t) :: l) else none) else (match yx mask md s l with | some l=>some ((m,d,t) :: l) | none=>none)
def kF (Z : Cx) (ops : Array Oper) (m rb ab : Nat) (mask : Array Bool) (md : Nat) (s : St) : List Nat→List X × Sts→Option (List X × Sts)
 | [],r=>some r
 | i :: l,(ns,L)=>match mY Z ops m rb ab i md s with
  | none=>none
  | some (ns',s')=>match yx (mask.setIfInBounds i true) (gL ops m md i) s' L with
   | none=>none
   | some L=>kF Z ops m rb ab mask md s l (ns ++ ns',L)
def jS (Z : Cx) (ops : Array Oper) (m rb ab : Nat) : Sts→List X × Sts→Option (List X × Sts)
 | [],r=>some r
 | (mask,md,s) :: l,r=>match Region.ready .any ops mask with
  | []=>none
  | rs=>(match kF Z ops m rb ab mask md s rs r with
   | none=>none
   | some r=>jS Z ops m rb ab l r)
def slot (sl : Bool) (b i : Nat) {α : Type} (l : List α) : Nat:=if sl then b + i else l.length
def yU (tab : List Nat) (ops : Array Oper) (l : Array Bool) (i : Nat) : Bool:=match ops[i]? with
 | none=>false
 | some oi=>(gi oi).and ((List.range ops.size).all fun j=>(Nat.beq j i).or ((l.getD j true).or ((waits tab j i).or (match ops[j]? with
   | some oj=>oi.apart ops oj
   | none=>true))))
def qW (tab : List Nat) (ops : Array Oper) (m md : Nat) (l : Array Bool) (i : Nat) : Bool:=((Nat.ble md 2).and (inF ops m i)).and ((match ops[i]? with | some o=>reads o | none=>false).and (zR tab ops m l i))
def lM (Z : Cx) (inl : Func→Nat→List SR→Option Nat→St→(St→Tree)→Tree) (tab : List Nat) (ops : Array Oper) (m rb ab : Nat) (sl : Bool) : Nat→Sts→(St→Tree)→Tree
 | 0,_,_=>.bad "fuel" []
 | n + 1,[(mask,md,s)],k=>(match Region.ready .any ops mask with
  | []=>k s
  | rs=>(match rs.find? (yU tab ops mask) with
   | some i=>(match nth ops.toList i with
    | none=>.bad "drawn" []
    | some o=>Au Z s o ops.toList (fun s=>lM Z inl tab ops m rb ab sl n [(mask,md,s)] k) (fun s=>lM Z inl tab ops m rb ab sl n [(mask.setIfInBounds i true,md,s)] k))
   | none=>(match rs with
    | [i]=>(match nth ops.toList i with
     | none=>.bad "drawn" []
     | some o=>if qU ops m md i then
       pX Z inl (still ops m md i) (slot sl rb i s.h.regs) (slot sl ab i s.h.arrs) s o ops.toList (fun s=>lM Z inl tab ops m rb ab sl n [(mask,md,s)] k) (fun s=>lM Z inl tab ops m rb ab sl n [(mask.setIfInBounds i true,gL ops m md i,s)] k)
      else .bad "drawn too late" [i])
    | rs=>(match rs.find? (fun i=>(calm Z ops.toList).and (qW tab ops m md mask i)) with
     | some i=>(match nth ops.toList i with
      | none=>.bad "drawn" []
      | some o=>Au Z s o ops.toList (fun s=>lM Z inl tab ops m rb ab sl n [(mask,md,s)] k) (fun s=>lM Z inl tab ops m rb ab sl n [(mask.setIfInBounds i true,1,s)] k))
     | none=>(match (if sl.and (calm Z ops.toList) then kF Z ops m rb ab mask md s rs ([],[]) else none) with
      | some (ns,L)=>fy s.known ns (lM Z inl tab ops m rb ab sl n L k)
      | none=>allT (rs.map fun i=>match nth ops.toList i with
       | none=>.bad "drawn" []
       | some o=>if qU ops m md i then
         pX Z inl (still ops m md i) (slot sl rb i s.h.regs) (slot sl ab i s.h.arrs) s o ops.toList (fun s=>lM Z inl tab ops m rb ab sl n [(mask,md,s)] k) (fun s=>lM Z inl tab ops m rb ab sl n [(mask.setIfInBounds i true,gL ops m md i,s)] k)
        else .bad "drawn too late" [i]))))))
 | n + 1,L,k=>(match jS Z ops m rb ab L ([],[]) with
  | some (ns,L')=>fy (match L with | (_,_,s) :: _=>s.known | []=>[]) ns (lM Z inl tab ops m rb ab sl n L' k)
  | none=>.bad "drawn many" (L.flatMap fun x=>999 :: x.2.1 :: Region.ready .any ops x.1))
def wT (ops : Array Oper) : Nat :=
 let rec go : Nat→List Oper→Nat
  | k,[]=>k
  | k,o :: l=>match o.op,l with | .store _ _ _,_=>k | .call ⟨.value _,_,_⟩,[]=>k | _,_=>go (k + 1) l
 go 0 ops.toList
def vW : List Oper→Nat
 | []=>0
 | o :: l=>(if gi o then 0 else 1) + vW l
def fM : List Nat→St→(St→Tree)→Tree
 | [],s,k=>k s
 | a :: l,s,k=>lp a s (fun s=>fM l s k)
def addN (a : Nat) (l : List Nat) : List Nat:=if rI a l then l else a :: l
def cFr (hc c : SC) (l : List Nat) : List Nat:=match hc,c with
 | .fz _ _,.sl a _=>addN a l
 | _,_=>l
def tFr : List SR→List SR→List Nat→List Nat
 | .v (.one hc) :: t,.v (.one c) :: u,l=>tFr t u (cFr hc c l)
 | _ :: t,_ :: u,l=>tFr t u l
 | _,_,l=>l
def rcFr : List SC→List SC→List Nat→List Nat
 | hc :: t,c :: u,l=>rcFr t u (cFr hc c l)
 | _,_,l=>l
def rgFr : List (Pc (List SC))→List (Pc (List SC))→List Nat→List Nat
 | .here hc :: t,.here c :: u,l=>rgFr t u (rcFr hc c l)
 | _ :: t,_ :: u,l=>rgFr t u l
 | _,_,l=>l
def Az (L : LI) (s : St) : List Nat:=rgFr L.hd.h.regs s.h.regs (tFr L.hd.tmps s.tmps [])
def cLn (h : Hp) (hc c : SC) : List X:=match hc,c with
 | .sl _ (.len (.var _)),.sl a n=>(match nth h.arrs a with | some (.here B)=>[mkLe n (bn B.x)] | _=>[])
 | _,_=>[]
def tLn (h : Hp) : List SR→List SR→List X
 | .v (.one hc) :: t,.v (.one c) :: u=>cLn h hc c ++ tLn h t u
 | _ :: t,_ :: u=>tLn h t u
 | _,_=>[]
def rcLn (h : Hp) : List SC→List SC→List X
 | hc :: t,c :: u=>cLn h hc c ++ rcLn h t u
 | _,_=>[]
def rgLn (h : Hp) : List (Pc (List SC))→List (Pc (List SC))→List X
 | .here hc :: t,.here c :: u=>rcLn h hc c ++ rgLn h t u
 | _ :: t,_ :: u=>rgLn h t u
 | _,_=>[]
def vJ (L : LI) (s : St) : List X:=vK s.h.arrs ++ (tLn s.h L.hd.tmps s.tmps ++ rgLn s.h L.hd.h.regs s.h.regs)
def kFr (k : HK) (c : SC) (l : List Nat) : List Nat:=match k,c with
 | .fz _,.sl a _=>addN a l
 | _,_=>l
def tsFr (tm : List SR) : List (Nat × HK)→List Nat→List Nat
 | [],l=>l
 | (i,k) :: m,l=>tsFr tm m (match nth tm i with | some (.v (.one c))=>kFr k c l | _=>l)
def rsFr (rg : List (Pc (List SC))) : List (Nat × Nat × HK)→List Nat→List Nat
 | [],l=>l
 | (r,o,k) :: m,l=>rsFr rg m (match nth rg r with | some (.here cs)=>(match nth cs o with | some c=>kFr k c l | none=>l) | _=>l)
def wi (H : Hint) (s : St) : List Nat:=rsFr s.h.regs H.rs (tsFr s.tmps H.ts H.fr)
def A4 (Z : Cx) (r : List It→St→Tree) (fn : Func) (f : Nat) (args : List SR) (dst : Option Nat) (s : St) (next : St→Tree) : Tree :=
 match fn.body with
 | none=>.bad "no body" [f]
 | some c=>r [.code c,.fin fun t=>match oY Z.T t.h t.tmps fn.results.toList,t.stk with
   | some vals,tm :: stk=>next { t with fn:=s.fn,tmps:=jX tm dst (wP vals),stk:=stk}
   | _,_=>.bad "results walked through" [f]] { s with fn:=f,tmps:=args ++ List.replicate (fn.ntmps - args.length) (.v (.one .undef)),stk:=s.tmps :: s.stk}
def run (Z : Cx) : Nat→List It→St→Tree
 | 0,_,_=>.bad "fuel" []
 | _ + 1,[],_=>.bad "no end" []
 | _ + 1,.fin k :: _,s=>k s
 | n + 1,.blk _ :: k,s=>run Z n k s
 | n + 1,.again c :: k,s=>run Z n (.code c :: .again c :: k) s
 | _ + 1,.round L :: _,s=>fV 8 s (fun s=>fM (Az L s) s (fun s=>fy s.known (vJ L s) (pS L { s with known:=df s.known (vJ L s)})))
 | n + 1,.code c :: k,s=>(match c with
  | .skip=>run Z n k s
  | .seq a b=>(match joinAt s.fn b Z.hints with
   | none=>run Z n (.code a :: .code b :: k) s
   | some H =>
    je (wi H s) s (fun s=>fV 8 s (fun s=>fM (wi H s) s (fun s=>fy s.known (vK s.h.arrs) (
     let s:={ s with known:=df s.known (vK s.h.arrs)}
     let d0 : Hd:={ nx:=s.nx + 1,h:={ s.h with arrs:=s.h.arrs.map fun x=>match x with | .fr=>.go | x=>x},ks:=[],ok:=true}
     match zO H (zS a) 0 s.tmps d0 with
     | (tm,d1)=>match wj H 0 s.h.regs d1 with
      | (rg,d2)=>match xL H 0 s.h.mps d2 with
       | (mp,d3) =>
       let L : LI:={ hd:={ s with tmps:=tm,h:={ d3.h with regs:=rg,mps:=mp},nx:=d3.nx},nx0:=s.nx,r0:=s.h.regs.length,a0:=s.h.arrs.length,ks:=d3.ks}
       if (dD (X.under s.nx) s.known).and (d3.ok.and (Nat.blt s.nx d3.nx)) then
        .join s.nx d3.ks (run Z n (.code a :: .round L :: k) { s with nx:=s.nx + 1}) (run Z n (.code b :: k) L.hd)
       else .bad "join head" [s.fn])))))
  | .block id b=>run Z n (.code b :: .blk id :: k) s
  | .ret=>(match w8 k with | some f=>f s | none=>.bad "no end" [])
  | .exit id=>(match jn id k with | some k=>run Z n k s | none=>.bad "exit" [])
  | .cond o a b=>(match ev s.tmps o with
   | some (.v (.one (.bool c)))=>(match X.dec s.known c with
    | some true=>run Z n (.code a :: k) s
    | some false=>run Z n (.code b :: k) s
    | none=>.ite c (run Z n (.code a :: k) { s with known:=X.lL c ++ s.known}) (run Z n (.code b :: k) { s with known:=X.lL (neg c) ++ s.known}))
   | _=>.bad "cond" [])
  | .region _ ops false=>run Z n (.ops ops.toList ops.toList :: k) s
  | .region _ ops true=>if Region.noSelect ops then
    let m:=wT ops
    let sl:=Nat.blt 1 (vW ops.toList)
    let rb:=s.h.regs.length
    let ab:=s.h.arrs.length
    let s':=if sl then { s with h:={ s.h with regs:=s.h.regs ++ List.replicate ops.size .fr,arrs:=s.h.arrs ++ List.replicate ops.size .fr}} else s
    nT s.nx (fun s=>run Z n k s) (lM Z (A4 Z (run Z n)) (dC ops.toList) ops m rb ab sl n [(Array.replicate ops.size false,0,s')] .leaf) else .bad "a drawn order" []
  | .loop b=>(match Ig b with
   | none=>.bad "loop" []
   | some r=>match xW s.fn r s.h.regs.length Z.hints with
    | none=>.bad "no hint" [s.fn,r,s.h.regs.length]
    | some H=>if H.unroll then run Z n (.code b :: .again b :: k) s else
     je (wi H (Ck H s)) (Ck H s) (fun s=>fV 8 s (fun s=>fM (wi H s) s (fun s=>fy s.known (vK s.h.arrs) (
      let s:={ s with known:=df s.known (vK s.h.arrs)}
      let d0 : Hd:={ nx:=s.nx + 1,h:={ s.h with arrs:=s.h.arrs.map fun x=>match x with | .fr=>.go | x=>x},ks:=[],ok:=true}
      match zO H (zS b) 0 s.tmps d0 with
      | (tm,d1)=>match wj H 0 s.h.regs d1 with
       | (rg,d2)=>match xL H 0 s.h.mps d2 with
        | (mp,d3) =>
        let L : LI:={ hd:={ s with tmps:=tm,h:={ d3.h with regs:=rg,mps:=mp},nx:=d3.nx},nx0:=s.nx,r0:=s.h.regs.length,a0:=s.h.arrs.length,ks:=d3.ks}
        if (dD (X.under s.nx) s.known).and (d3.ok.and (Nat.blt s.nx d3.nx)) then
         (let S:=holds L s
          match S.no,collect S.ls (s.nx + 1) d3.ks with
         | [],some init=>.loop s.nx d3.ks init (run Z n (.code b :: .round L :: k) L.hd)
         | l,_=>.bad "loops head" (s.fn :: r :: l))
        else .bad "loops head" [s.fn,r])))))
  | _=>.bad "code" [])
 | n + 1,.ops [] _ :: k,s=>run Z n k s
 | n + 1,.ops (o :: l) all :: k,s=>pX Z (A4 Z (run Z n)) false s.h.regs.length s.h.arrs.length s o all (fun s=>run Z n (.ops (o :: l) all :: k) s) (fun s=>run Z n (.ops l all :: k) s)
end Go.Sy
