import Derived.WalkKit
import Derived.Deep.Draws
import Derived.RowKit
import Derived.Orders
import Derived.Deep.Quiet
namespace Go.Sy
open Go.RowKit
inductive CD where
 | i (n : Int) | b (x : Bool) | s (l : List UInt8) | l (rows : List (List CD)) | u | o (rows : List (List CD)) | h (s n : Nat)
instance : Inhabited CD:=⟨.u⟩
namespace CD
def int : CD→Int | .i n=>n | _=>0
def bool : CD→Bool | .b x=>x | _=>false
def str : CD→List UInt8 | .s t=>t | _=>[]
def rows : CD→List (List CD) | .l r=>r | _=>[]
def row (c : CD) : List CD:=c.rows.headD []
def shut : CD→CD | .o r=>.l r | d=>d
def isO : CD→Bool | .o _=>true | _=>false
def isL : CD→Bool | .l _=>true | _=>false
def isH : CD→Bool | .h _ _=>true | _=>false
@[simp] theorem CS (r : List (List CD)) : (CD.o r).shut=.l r:=rfl
@[simp] theorem shut_l (r : List (List CD)) : (CD.l r).shut=.l r:=rfl
@[simp] theorem isO_o (r : List (List CD)) : (CD.o r).isO=true:=rfl
@[simp] theorem isL_l (r : List (List CD)) : (CD.l r).isL=true:=rfl
@[simp] theorem aR (n : Int) : (CD.i n).int=n:=rfl
@[simp] theorem gB (x : Bool) : (CD.b x).bool=x:=rfl
@[simp] theorem str_s (x : List UInt8) : (CD.s x).str=x:=rfl
@[simp] theorem ax (r : List (List CD)) : (CD.l r).rows=r:=rfl
def eqs : CD→CD→Bool
 | .i x,.i y=>x ==y
 | .b x,.b y=>x ==y
 | .s x,.s y=>x ==y
 | _,_=>false
end CD
def kJ : List CD→List CD→Bool
 | [],[]=>true
 | a :: l,b :: m=>a.eqs b && kJ l m
 | _,_=>false
abbrev Env:=Nat→CD
def Env.put (E : Env) (lo : Nat) (out : List CD) : Env:=fun i=>if i < lo then E i else out.getD (i - lo) .u
inductive X where
 | int (n : Int) | bool (x : Bool) | str (l : List UInt8) | var (i : Nat)
 | cell (x i : X) (o : Nat) | len (x : X) | slen (x : X)
 | add (x y : X) | sub (x y : X) | mul (x y : X) | tmod (x y : X) | tdiv (x y : X) | min (x y : X) | max (x y : X)
 | lt (x y : X) | le (x y : X) | eq (x y : X) | fit (x : X) | beq (x y : X) | seq (x y : X) | not (x : X) | and (x y : X) | or (x y : X)
 | nil | row0 | cons (d r : X) | app (x y : X) | take (n x : X) | drop (n x : X) | set (x i : X) (o : Nat) (d : X) | rep (n r : X)
 | look (x key d : X) (k o : Nat) | has (x key : X) (k : Nat)
 | own (x : X) | shut (x : X) | isO (x : X) | isL (x : X) | ref (a : Nat) (n : X) | clean (x : X) (j : Nat) | shuts (x : X) (j : Nat)
 deriving Inhabited
def CD.find (x : List (List CD)) (key : List CD) (k : Nat) : Option (List CD):=x.find? fun r=>kJ (r.take k) key
def X.den (E : Env) : X→CD
 | .int n=>.i n
 | .bool b=>.b b
 | .str l=>.s l
 | .var i=>E i
 | .cell x i o=>((x.den E).rows.getD (i.den E).int.toNat []).getD o .u
 | .len x=>.i (x.den E).rows.length
 | .slen x=>.i (x.den E).str.length
 | .add x y=>.i ((x.den E).int + (y.den E).int)
 | .sub x y=>.i ((x.den E).int - (y.den E).int)
 | .mul x y=>.i ((x.den E).int * (y.den E).int)
 | .tmod x y=>.i ((x.den E).int.tmod (y.den E).int)
 | .tdiv x y=>.i ((x.den E).int.tdiv (y.den E).int)
 | .min x y=>.i (if (y.den E).int < (x.den E).int then (y.den E).int else (x.den E).int)
 | .max x y=>.i (if (x.den E).int < (y.den E).int then (y.den E).int else (x.den E).int)
 | .lt x y=>.b (decide ((x.den E).int < (y.den E).int))
 | .le x y=>.b (decide ((x.den E).int≤(y.den E).int))
 | .eq x y=>.b ((x.den E).int ==(y.den E).int)
 | .fit x=>.b (decide (-9223372036854775808≤(x.den E).int) && decide ((x.den E).int≤9223372036854775807))
 | .beq x y=>.b ((x.den E).bool ==(y.den E).bool)
 | .seq x y=>.b ((x.den E).str ==(y.den E).str)
 | .not x=>.b (!(x.den E).bool)
 | .and x y=>.b ((x.den E).bool && (y.den E).bool)
 | .or x y=>.b ((x.den E).bool || (y.den E).bool)
 | .nil=>.l []
 | .row0=>.l [[]]
 | .cons d r=>.l [d.den E :: (r.den E).row]
 | .app x y=>.l ((x.den E).rows ++ (y.den E).rows)
 | .take n x=>.l ((x.den E).rows.take (n.den E).int.toNat)
 | .drop n x=>.l ((x.den E).rows.drop (n.den E).int.toNat)
 | .set x i o d=>.l ((x.den E).rows.modify (i.den E).int.toNat fun r=>r.set o (d.den E))
 | .rep n r=>.l (List.replicate (n.den E).int.toNat (r.den E).row)
 | .look x key d k o=>((CD.find (x.den E).rows (key.den E).row k).getD []).getD o (d.den E)
 | .has x key k=>.b (CD.find (x.den E).rows (key.den E).row k).isSome
 | .own x=>.o (x.den E).rows
 | .shut x=>(x.den E).shut
 | .isO x=>.b (x.den E).isO
 | .isL x=>.b (x.den E).isL
 | .ref a n=>.h a (n.den E).int.toNat
 | .clean x j=>.b ((x.den E).rows.all fun r=>!(r.getD j .u).isH)
 | .shuts x j=>.l ((x.den E).rows.map fun r=>r.modify j CD.shut)
def IntKind.same : IntKind→IntKind→Bool
 | .i8,.i8 | .i16,.i16 | .i32,.i32 | .i64,.i64 | .u8,.u8 | .u16,.u16 | .u32,.u32 | .u64,.u64=>true
 | _,_=>false
theorem IntKind.av {a b : IntKind} (h : IntKind.same a b=true) : a=b:=by cases a <;> cases b <;> simp_all [IntKind.same]
def nj : Int→Int→Bool
 | .ofNat a,.ofNat b=>Nat.beq a b
 | .negSucc a,.negSucc b=>Nat.beq a b
 | _,_=>false
theorem zK {a b : Int} (h : nj a b=true) : a=b:=by
 cases a <;> cases b <;> simp only [nj,Bool.false_eq_true] at h <;> rw [Nat.eq_of_beq_eq_true h]
def gC (a b : Bool) : Bool:=if a then b else b.not
theorem iq {a b : Bool} (h : gC a b=true) : a=b:=by revert h;cases a <;> cases b <;> simp [gC]
def bK {α : Type} (f : α→α→Bool) : List α→List α→Bool
 | [],[]=>true
 | a :: l,b :: m=>(f a b).and (bK f l m)
 | _,_=>false
theorem bH {α : Type} {f : α→α→Bool} (hf : ∀ a b,f a b=true→a=b) : ∀ {l m : List α},bK f l m=true→l=m:=by
 intro l
 induction l with
 | nil=>intro m h;cases m <;> simp_all [bK]
 | cons a l ih =>
  intro m h
  cases m <;> simp only [bK,Bool.false_eq_true,Bool.and_eq_true] at h
  rw [hf _ _ h.1,ih h.2]
def mJ (a b : UInt8) : Bool:=Nat.beq a.toNat b.toNat
theorem Lv (a b : UInt8) (h : mJ a b=true) : a=b:=UInt8.toNat_inj.1 (Nat.eq_of_beq_eq_true h)
def sQ (a b : Nat × Nat) : Bool:=(Nat.beq a.1 b.1).and (Nat.beq a.2 b.2)
theorem xj (a b : Nat × Nat) (h : sQ a b=true) : a=b:=by
 simp only [sQ,Bool.and_eq_true] at h
 exact Prod.ext (Nat.eq_of_beq_eq_true h.1) (Nat.eq_of_beq_eq_true h.2)
def X.same : X→X→Bool
 | .int a,.int b=>nj a b
 | .bool a,.bool b=>gC a b
 | .str a,.str b=>bK mJ a b
 | .var a,.var b=>Nat.beq a b
 | .cell x i o,.cell y j p=>(Nat.beq o p).and ((X.same i j).and (X.same x y))
 | .len x,.len y | .slen x,.slen y | .fit x,.fit y | .not x,.not y | .own x,.own y | .shut x,.shut y | .isO x,.isO y | .isL x,.isL y=>X.same x y
 | .ref a x,.ref b y | .clean x a,.clean y b | .shuts x a,.shuts y b=>(Nat.beq a b).and (X.same x y)
 | .add a b,.add c d | .sub a b,.sub c d | .mul a b,.mul c d | .tmod a b,.tmod c d | .tdiv a b,.tdiv c d | .min a b,.min c d | .max a b,.max c d
 | .lt a b,.lt c d | .le a b,.le c d | .eq a b,.eq c d | .beq a b,.beq c d | .seq a b,.seq c d | .and a b,.and c d | .or a b,.or c d
 | .cons a b,.cons c d | .app a b,.app c d | .take a b,.take c d | .drop a b,.drop c d | .rep a b,.rep c d=>(X.same a c).and (X.same b d)
 | .nil,.nil | .row0,.row0=>true
 | .set x i o d,.set y j p e=>(Nat.beq o p).and ((X.same i j).and ((X.same d e).and (X.same x y)))
 | .look x key d k o,.look y key' d' k' p=>(Nat.beq o p).and ((Nat.beq k k').and ((X.same key key').and ((X.same d d').and (X.same x y))))
 | .has x key k,.has y key' k'=>(Nat.beq k k').and ((X.same key key').and (X.same x y))
 | _,_=>false
theorem X.av : ∀ {a b : X},X.same a b=true→a=b:=by
 intro a
 induction a with
 | int n=>intro b h;cases b <;> simp only [X.same,Bool.false_eq_true] at h;rw [zK h]
 | bool n=>intro b h;cases b <;> simp only [X.same,Bool.false_eq_true] at h;rw [iq h]
 | str n=>intro b h;cases b <;> simp only [X.same,Bool.false_eq_true] at h;rw [bH Lv h]
 | var n=>intro b h;cases b <;> simp only [X.same,Bool.false_eq_true] at h;rw [Nat.eq_of_beq_eq_true h]
 | cell x i o ix ii =>
  intro b h
  cases b <;> simp only [X.same,Bool.false_eq_true,Bool.and_eq_true] at h
  rw [Nat.eq_of_beq_eq_true h.1,ii h.2.1,ix h.2.2]
 | len x ix | slen x ix | fit x ix | not x ix | own x ix | shut x ix | isO x ix | isL x ix =>
  intro b h
  cases b <;> simp only [X.same,Bool.false_eq_true] at h
  rw [ix h]
 | ref a x ix | clean x a ix | shuts x a ix =>
  intro b h
  cases b <;> simp only [X.same,Bool.false_eq_true,Bool.and_eq_true] at h
  rw [Nat.eq_of_beq_eq_true h.1,ix h.2]
 | add x y ix iy | sub x y ix iy | mul x y ix iy | tmod x y ix iy | tdiv x y ix iy | min x y ix iy | max x y ix iy | lt x y ix iy | le x y ix iy | eq x y ix iy | beq x y ix iy | seq x y ix iy | and x y ix iy | or x y ix iy
 | cons x y ix iy | app x y ix iy | take x y ix iy | drop x y ix iy | rep x y ix iy =>
  intro b h
  cases b <;> simp only [X.same,Bool.false_eq_true,Bool.and_eq_true] at h
  rw [ix h.1,iy h.2]
 | nil | row0=>intro b h;cases b <;> simp only [X.same,Bool.false_eq_true] at h <;> rfl
 | set x i o d ix ii id =>
  intro b h
  cases b <;> simp only [X.same,Bool.false_eq_true,Bool.and_eq_true] at h
  rw [Nat.eq_of_beq_eq_true h.1,ii h.2.1,id h.2.2.1,ix h.2.2.2]
 | look x key d k o ix ik id =>
  intro b h
  cases b <;> simp only [X.same,Bool.false_eq_true,Bool.and_eq_true] at h
  rw [Nat.eq_of_beq_eq_true h.1,Nat.eq_of_beq_eq_true h.2.1,ik h.2.2.1,id h.2.2.2.1,ix h.2.2.2.2]
 | has x key k ix ik =>
  intro b h
  cases b <;> simp only [X.same,Bool.false_eq_true,Bool.and_eq_true] at h
  rw [Nat.eq_of_beq_eq_true h.1,ik h.2.1,ix h.2.2]
def X.under (n : Nat) : X→Bool
 | .int _ | .bool _ | .str _ | .nil | .row0=>true
 | .var i=>Nat.blt i n
 | .cell x i _=>(x.under n).and (i.under n)
 | .len x | .slen x | .fit x | .not x | .own x | .shut x | .isO x | .isL x | .ref _ x | .clean x _ | .shuts x _=>x.under n
 | .add x y | .sub x y | .mul x y | .tmod x y | .tdiv x y | .min x y | .max x y | .lt x y | .le x y | .eq x y | .beq x y | .seq x y | .and x y | .or x y
 | .cons x y | .app x y | .take x y | .drop x y | .rep x y=>(x.under n).and (y.under n)
 | .set x i _ d=>(x.under n).and ((i.under n).and (d.under n))
 | .has x key _=>(x.under n).and (key.under n)
 | .look x key d _ _=>(x.under n).and ((key.under n).and (d.under n))
def Env.bW (E : Env) (n : Nat) (F : Env) : Prop:=∀ i,i < n→E i=F i
theorem Hk {a b : Nat} (h : Nat.blt a b=true) : a < b:=by rw [Nat.blt_eq] at h;exact h
theorem X.dM {n : Nat} {E F : Env} (h : E.bW n F) : ∀ {e : X},e.under n=true→e.den E=e.den F:=by
 intro e
 induction e with
 | var i=>intro u;exact h i (Hk u)
 | int | bool | str | nil | row0=>intro _;rfl
 | len x ix | slen x ix | fit x ix | not x ix | own x ix | shut x ix | isO x ix | isL x ix | ref a x ix | clean x a ix | shuts x a ix=>intro u;simp only [X.den,ix u]
 | set x i o d ix ii id =>
  intro u
  simp only [X.under,Bool.and_eq_true] at u
  simp only [X.den,ix u.1,ii u.2.1,id u.2.2]
 | look x y d k o ix iy id =>
  intro u
  simp only [X.under,Bool.and_eq_true] at u
  simp only [X.den,ix u.1,iy u.2.1,id u.2.2]
 | cell x y o ix iy | has x y k ix iy =>
  intro u
  simp only [X.under,Bool.and_eq_true] at u
  simp only [X.den,ix u.1,iy u.2]
 | add x y ix iy | sub x y ix iy | mul x y ix iy | tmod x y ix iy | tdiv x y ix iy | min x y ix iy | max x y ix iy | lt x y ix iy | le x y ix iy | eq x y ix iy | beq x y ix iy | seq x y ix iy | and x y ix iy | or x y ix iy
 | cons x y ix iy | app x y ix iy | take x y ix iy | drop x y ix iy | rep x y ix iy =>
  intro u
  simp only [X.under,Bool.and_eq_true] at u
  simp only [X.den,ix u.1,iy u.2]
theorem Env.bW.refl (E : Env) (n : Nat) : E.bW n E:=fun _ _=>rfl
theorem Env.bW.symm {n : Nat} {E F : Env} (h : E.bW n F) : F.bW n E:=fun i hi=>(h i hi).symm
theorem Env.bW.trans {n : Nat} {E F G : Env} (h : E.bW n F) (k : F.bW n G) : E.bW n G:=fun i hi=>(h i hi).trans (k i hi)
theorem Env.bW.mono {n m : Nat} {E F : Env} (h : E.bW n F) (hm : m≤n) : E.bW m F:=fun i hi=>h i (by omega)
theorem Env.m7 (E : Env) (lo : Nat) (out : List CD) : E.bW lo (E.put lo out):=fun i hi=>by simp [Env.put,hi]
inductive Kd where
 | int (k : IntKind) | bool | str | sl (by_ : Nat) (kd : List Kd) | os (e : Nat)
 deriving Inhabited
mutual
def Kd.same : Kd→Kd→Bool
 | .int k,.int j=>IntKind.same k j
 | .bool,.bool | .str,.str=>true
 | .sl b l,.sl c m=>(Nat.beq b c).and (Kd.lG l m)
 | .os a,.os b=>Nat.beq a b
 | _,_=>false
def Kd.lG : List Kd→List Kd→Bool
 | [],[]=>true
 | a :: l,b :: m=>(Kd.same a b).and (Kd.lG l m)
 | _,_=>false
end
mutual
theorem Kd.av : ∀ (a b : Kd),Kd.same a b=true→a=b
 | .int k,b,h=>by cases b <;> simp only [Kd.same,Bool.false_eq_true] at h;rw [IntKind.av h]
 | .bool,b,h=>by cases b <;> simp only [Kd.same,Bool.false_eq_true] at h;rfl
 | .str,b,h=>by cases b <;> simp only [Kd.same,Bool.false_eq_true] at h;rfl
 | .sl b l,c,h=>by
  cases c <;> simp only [Kd.same,Bool.false_eq_true,Bool.and_eq_true] at h
  rw [Nat.eq_of_beq_eq_true h.1,Kd.fu l _ h.2]
 | .os a,b,h=>by cases b <;> simp only [Kd.same,Bool.false_eq_true] at h;rw [Nat.eq_of_beq_eq_true h]
theorem Kd.fu : ∀ (l m : List Kd),Kd.lG l m=true→l=m
 | [],m,h=>by cases m <;> simp only [Kd.lG,Bool.false_eq_true] at h;rfl
 | a :: l,m,h=>by
  cases m <;> simp only [Kd.lG,Bool.false_eq_true,Bool.and_eq_true] at h
  rw [Kd.av a _ h.1,Kd.fu l _ h.2]
end
structure SK where
 by_ : Nat
 kd : List Kd
 deriving Inhabited
def SK.same (a b : SK) : Bool:=(Nat.beq a.by_ b.by_).and (Kd.lG a.kd b.kd)
theorem SK.av {a b : SK} (h : SK.same a b=true) : a=b:=by
 simp only [SK.same,Bool.and_eq_true] at h
 cases a;cases b
 simp only [SK.mk.injEq]
 exact ⟨Nat.eq_of_beq_eq_true h.1,Kd.fu _ _ h.2⟩
inductive SC where
 | any | undef | int (k : IntKind) (x : X) | bool (x : X) | str (x : X)
 | fz (K : SK) (x : X) | fp (K : SK) (x i : X) (o : Nat) | sl (a : Nat) (n : X) | sub (a z : Nat) (i n : X) | ep (a z : Nat) (i : X) (o : Nat) | loc (r o : Nat)
 | nilsl | z0 | nilp | nilmap | mp (a : Nat) | fn (f : Nat) (caps : List (Nat × Nat))
 deriving Inhabited
inductive SV where
 | one (c : SC) | agg (l : List SC)
 deriving Inhabited
inductive SR where
 | v (x : SV) | tup (l : List SV)
 deriving Inhabited
def SC.same : SC→SC→Bool
 | .any,.any | .undef,.undef | .nilsl,.nilsl | .z0,.z0 | .nilp,.nilp | .nilmap,.nilmap=>true
 | .int k a,.int l b=>(IntKind.same k l).and (X.same a b)
 | .bool a,.bool b | .str a,.str b=>X.same a b
 | .fz K a,.fz L b=>(SK.same K L).and (X.same a b)
 | .fp K a i o,.fp L b j p=>((Nat.beq o p).and (SK.same K L)).and ((X.same i j).and (X.same a b))
 | .sl a n,.sl b m=>(Nat.beq a b).and (X.same n m)
 | .sub a z i n,.sub b y j m=>(Nat.beq a b).and ((Nat.beq z y).and ((X.same i j).and (X.same n m)))
 | .ep a z i o,.ep b y j p=>(Nat.beq a b).and ((Nat.beq z y).and ((Nat.beq o p).and (X.same i j)))
 | .loc a o,.loc b p=>(Nat.beq a b).and (Nat.beq o p)
 | .mp a,.mp b=>Nat.beq a b
 | .fn f c,.fn g d=>(Nat.beq f g).and (bK sQ c d)
 | _,_=>false
theorem SC.av (a b : SC) (h : SC.same a b=true) : a=b:=by
 cases a <;> cases b <;> simp only [SC.same,Bool.false_eq_true,Bool.and_eq_true] at h <;> try rfl
 ·rw [IntKind.av h.1,X.av h.2]
 ·rw [X.av h]
 ·rw [X.av h]
 ·rw [SK.av h.1,X.av h.2]
 ·rw [Nat.eq_of_beq_eq_true h.1.1,SK.av h.1.2,X.av h.2.1,X.av h.2.2]
 ·rw [Nat.eq_of_beq_eq_true h.1,X.av h.2]
 ·rw [Nat.eq_of_beq_eq_true h.1,Nat.eq_of_beq_eq_true h.2.1,X.av h.2.2.1,X.av h.2.2.2]
 ·rw [Nat.eq_of_beq_eq_true h.1,Nat.eq_of_beq_eq_true h.2.1,Nat.eq_of_beq_eq_true h.2.2.1,X.av h.2.2.2]
 ·rw [Nat.eq_of_beq_eq_true h.1,Nat.eq_of_beq_eq_true h.2]
 ·rw [Nat.eq_of_beq_eq_true h]
 ·rw [Nat.eq_of_beq_eq_true h.1,bH xj h.2]
def SV.same : SV→SV→Bool
 | .one a,.one b=>SC.same a b
 | .agg a,.agg b=>bK SC.same a b
 | _,_=>false
theorem SV.av (a b : SV) (h : SV.same a b=true) : a=b:=by
 cases a <;> cases b <;> simp only [SV.same,Bool.false_eq_true] at h
 ·rw [SC.av _ _ h]
 ·rw [bH SC.av h]
def SR.same : SR→SR→Bool
 | .v a,.v b=>SV.same a b
 | .tup a,.tup b=>bK SV.same a b
 | _,_=>false
theorem SR.av (a b : SR) (h : SR.same a b=true) : a=b:=by
 cases a <;> cases b <;> simp only [SR.same,Bool.false_eq_true] at h
 ·rw [SV.av _ _ h]
 ·rw [bH SV.av h]
inductive Ow where
 | z | reg (r : Nat) | arr (a : Nat) | mp (a : Nat) | nst (a i j : Nat)
 deriving DecidableEq
def Ow.ofA (a : Nat) : Ow→Prop
 | .arr b=>b=a
 | .nst b _ _=>b=a
 | _=>False
structure Pl where
 reg : Nat→Option (Nat × Nat)
 arr : Nat→Option (Option Addr × Nat)
 mp : Nat→Option Nat
 ow : Nat→Ow
structure Pl.Le (p q : Pl) : Prop where
 reg : ∀ i x,p.reg i=some x→q.reg i=some x
 arr : ∀ i x,p.arr i=some x→q.arr i=some x
 mp : ∀ i x,p.mp i=some x→q.mp i=some x
theorem Pl.Le.refl (p : Pl) : p.Le p:=⟨fun _ _ h=>h,fun _ _ h=>h,fun _ _ h=>h⟩
theorem Pl.Le.trans {p q r : Pl} (h : p.Le q) (k : q.Le r) : p.Le r:=⟨fun i x e=>k.reg i x (h.reg i x e),fun i x e=>k.arr i x (h.arr i x e),fun i x e=>k.mp i x (h.mp i x e)⟩
abbrev Gm:=Nat→Nat→Option Value
def Gm.Le (g g' : Gm) : Prop:=∀ k o v,g k o=some v→g' k o=some v
theorem Gm.Le.refl (g : Gm) : g.Le g:=fun _ _ _ h=>h
theorem Gm.Le.trans {a b c : Gm} (h : a.Le b) (k : b.Le c) : a.Le c:=fun i o v e=>k i o v (h i o v e)
abbrev B47 : Nat:=140737488355328
def wI (rows : List (List CD)) : Prop:=rows.length * 8≤B47∧∀ row∈rows,∃ k,row=[.i k]
def yA (g : Gm) (v : Value) (d : CD) : Prop:=match d with
 | .l rows=>∃ A c,v=.slice A rows.length c∧rows.length≤c∧c≤maxLen∧rows.length * 8≤B47∧(0 < rows.length→∃ b q,A=some ⟨b,q,none⟩∧∀ i row,rows[i]?=some row→∃ k,row=[.i k]∧g b (q + i)=some (.int .i64 k))
 | .o rows=>(∃ A c,v=.slice A rows.length c)∧wI rows
 | .h _ n=>∃ A c,v=.slice A n c
 | _=>False
mutual
def Rd (g : Gm) : Kd→Value→CD→Prop
 | .int k,v,d=>∃ n,v=.int k n∧d=.i n
 | .bool,v,d=>∃ b,v=.bool b∧d=.b b
 | .str,v,d=>∃ s : ByteArray,v=.string s∧d=.s s.data.toList
 | .sl by_ kd,v,d=>∃ A n c rows,v=.slice A n c∧d=.l rows∧rows.length=n∧n≤c∧c≤maxLen∧n * by_≤B47∧(0 < n→∃ b q,A=some ⟨b,q,none⟩∧∀ i row,rows[i]?=some row→aJ g kd (fun j=>g b (q + (i * kd.length + j))) row)
 | .os _,v,d=>yA g v d
def aJ (g : Gm) : List Kd→(Nat→Option Value)→List CD→Prop
 | [],_,[]=>True
 | k :: ks,f,d :: ds=>(∃ v,f 0=some v∧Rd g k v d)∧aJ g ks (fun j=>f (j + 1)) ds
 | _,_,_=>False
end
end Go.Sy

namespace Go.Sy
def dV (D : Nat→Nat→Prop) (w w' : World) : Prop:=∀ k i,D k i→w'.cell? ⟨k,i,none⟩=w.cell? ⟨k,i,none⟩
theorem dV.refl (D : Nat→Nat→Prop) (w : World) : dV D w w:=fun _ _ _=>rfl
theorem dV.trans {D : Nat→Nat→Prop} {a b c : World} (h : dV D a b) (k : dV D b c) : dV D a c:=fun x i d=>(k x i d).trans (h x i d)
section
variable {P : Program} {ops : Array Oper} {Q : Exit→Act→World→Prop} {C : World→Prop} {D : Nat→Nat→Prop} {F : Nat→Bool}
def qC (P : Program) (ops : Array Oper) (Q : Exit→Act→World→Prop) (D : Nat→Nat→Prop) (F : Nat→Bool) : Nat→Array Bool→Act→World→Prop
 | 0,l,a,w=>Region.ready .any ops l=[]∧Q .normal a w
 | fuel + 1,l,a,w=>(Region.ready .any ops l=[]→Q .normal a w) ∧
   ∀ j∈Region.ready .any ops l,wpOp P ops Q j (fun a' w'=>(F j=true→dV D w w')∧qC P ops Q D F fuel (l.setIfInBounds j true) a' w') a w
theorem rv : ∀ (fuel : Nat) (l : Array Bool) (a : Act) (w : World),qC P ops Q D F fuel l a w→wpAny P .any ops Q fuel l a w
 | 0,_,_,_,h=>h
 | fuel + 1,_,_,_,h=>⟨h.1,fun j hj=>wpOp_mono (fun a' w' hh=>rv fuel _ a' w' hh.2) (h.2 j hj)⟩
theorem vv {D' : Nat→Nat→Prop} (hD : ∀ k i,D k i→D' k i) : ∀ (fuel : Nat) (l : Array Bool) (a : Act) (w : World),qC P ops Q D' F fuel l a w→qC P ops Q D F fuel l a w
 | 0,_,_,_,h=>h
 | fuel + 1,_,_,_,h=>⟨h.1,fun j hj=>wpOp_mono (fun a' w' hh=>⟨fun hF k i hk=>hh.1 hF k i (hD k i hk),vv hD fuel _ a' w' hh.2⟩) (h.2 j hj)⟩
def yy (ops : Array Oper) (l : Array Bool) : Prop:=∀ k o,ops[k]?=some o→l.getD k false=true→∀ e∈o.after,Region.binds .any e=true→l.getD e.on false=true
theorem yy.add {l : Array Bool} {j : Nat} (h : yy ops l) (hj : j∈Region.ready .any ops l) : yy ops (l.setIfInBounds j true):=by
 intro k o ho hk e he hb
 by_cases hkj : j=k
 ·subst hkj
  obtain ⟨_,o',ho',hall⟩:=mem_ready.1 hj
  rw [ho] at ho';cases ho'
  exact getD_set_true (hall e he hb)
 ·rw [getD_set_ne false hkj] at hk
  exact getD_set_true (h k o ho hk e he hb)
def nU (tab : List Nat) (o : Oper) : Nat:=o.after.toList.foldl (fun acc e=>if Region.binds .any e then acc ||| (2 ^ e.on) ||| (tab.getD e.on 0) else acc) 0
def dC (ops : List Oper) : List Nat:=ops.foldl (fun tab o=>tab ++ [nU tab o]) []
def waits (tab : List Nat) (j i : Nat) : Bool:=(tab.getD j 0).testBit i
theorem Cv {tab : List Nat} {o : Oper} {i : Nat} (h : (nU tab o).testBit i=true) : ∃ e∈o.after.toList,Region.binds .any e=true∧(e.on=i∨(tab.getD e.on 0).testBit i=true):=by
 unfold nU at h
 have : ∀ (l : List Edge) (acc : Nat),(l.foldl (fun acc e=>if Region.binds .any e then acc ||| (2 ^ e.on) ||| (tab.getD e.on 0) else acc) acc).testBit i=true→acc.testBit i=true∨∃ e∈l,Region.binds .any e=true∧(e.on=i∨(tab.getD e.on 0).testBit i=true):=by
  intro l
  induction l with
  | nil=>intro acc h;exact .inl h
  | cons e l ih =>
   intro acc h
   rw [List.foldl_cons] at h
   rcases ih _ h with h1 | ⟨e',h1,h2⟩
   ·by_cases hb : Region.binds .any e=true
    ·rw [if_pos hb,Nat.testBit_or,Nat.testBit_or,Bool.or_eq_true,Bool.or_eq_true] at h1
     rcases h1 with (h1 | h1) | h1
     ·exact .inl h1
     ·rw [Nat.testBit_two_pow] at h1
      exact .inr ⟨e,by simp,hb,.inl (of_decide_eq_true h1)⟩
     ·exact .inr ⟨e,by simp,hb,.inr h1⟩
    ·rw [if_neg hb] at h1
     exact .inl h1
   ·exact .inr ⟨e',List.mem_cons_of_mem _ h1,h2⟩
 rcases this _ _ h with h1 | h1
 ·simp at h1
 ·exact h1
theorem oN : ∀ (ops : List Oper),(dC ops).length=ops.length∧∀ j i,((dC ops).getD j 0).testBit i=true→∃ o,ops[j]?=some o∧∃ e∈o.after.toList,Region.binds .any e=true∧(e.on=i∨(e.on < j∧((dC ops).getD e.on 0).testBit i=true)):=by
 intro ops
 unfold dC
 have : ∀ (l pre : List Oper) (tab : List Nat),tab.length=pre.length→(∀ j i,(tab.getD j 0).testBit i=true→∃ o,pre[j]?=some o∧∃ e∈o.after.toList,Region.binds .any e=true∧(e.on=i∨(e.on < j∧(tab.getD e.on 0).testBit i=true))) →
   (l.foldl (fun tab o=>tab ++ [nU tab o]) tab).length=(pre ++ l).length∧∀ j i,((l.foldl (fun tab o=>tab ++ [nU tab o]) tab).getD j 0).testBit i=true→∃ o,(pre ++ l)[j]?=some o∧∃ e∈o.after.toList,Region.binds .any e=true∧(e.on=i∨(e.on < j∧((l.foldl (fun tab o=>tab ++ [nU tab o]) tab).getD e.on 0).testBit i=true)):=by
  intro l
  induction l with
  | nil=>intro pre tab h1 h2;simp only [List.foldl_nil,List.append_nil];exact ⟨h1,h2⟩
  | cons o l ih =>
   intro pre tab h1 h2
   have:=ih (pre ++ [o]) (tab ++ [nU tab o]) (by simp [h1]) (fun j i hb=>?_)
   ·rw [List.append_assoc] at this
    exact this
   ·have old : ∀ k,k < tab.length→(tab ++ [nU tab o]).getD k 0=tab.getD k 0:=fun k hk=>by
     simp only [List.getD_eq_getElem?_getD]
     rw [List.getElem?_append_left hk]
    rcases Nat.lt_trichotomy j tab.length with hj | hj | hj
    ·rw [old j hj] at hb
     obtain ⟨o',k1,e,k2,k3,k4⟩:=h2 j i hb
     refine ⟨o',by rw [List.getElem?_append_left (by omega)];exact k1,e,k2,k3,?_⟩
     rcases k4 with k4 | ⟨k4,k5⟩
     ·exact .inl k4
     ·exact .inr ⟨k4,by rw [old _ (by omega)];exact k5⟩
    ·subst hj
     have hlast : (tab ++ [nU tab o]).getD tab.length 0=nU tab o:=by simp [List.getD_eq_getElem?_getD]
     rw [hlast] at hb
     obtain ⟨e,k2,k3,k4⟩:=Cv hb
     refine ⟨o,by rw [h1];simp,e,k2,k3,?_⟩
     rcases k4 with k4 | k4
     ·exact .inl k4
     ·have hlt : e.on < tab.length:=by
       rcases Nat.lt_or_ge e.on tab.length with h | h
       ·exact h
       ·rw [List.getD_eq_getElem?_getD,List.getElem?_eq_none h] at k4;simp at k4
      exact .inr ⟨hlt,by rw [old _ hlt];exact k4⟩
    ·rw [List.getD_eq_getElem?_getD,List.getElem?_eq_none (by simp;omega)] at hb
     simp at hb
 have h0:=this ops [] [] rfl (fun j i hb=>by simp at hb)
 simpa using h0
theorem oQ {l : Array Bool} (hs : yy ops l) {i : Nat} : ∀ (n j : Nat) (o : Oper),j≤n→ops[j]?=some o→(∀ e∈o.after,Region.binds .any e=true→l.getD e.on false=true)→waits (dC ops.toList) j i=true→l.getD i false=true:=by
 intro n
 induction n with
 | zero =>
  intro j o hj ho hall h
  obtain ⟨o',k1,e,k2,k3,k4⟩:=(oN ops.toList).2 j i h
  have : o'=o:=by
   have : ops[j]?=some o':=by simpa using k1
   rw [ho] at this;cases this;rfl
  subst this
  rcases k4 with k4 | ⟨k4,_⟩
  ·subst k4;exact hall e (by simpa using k2) k3
  ·omega
 | succ n ih =>
  intro j o hj ho hall h
  obtain ⟨o',k1,e,k2,k3,k4⟩:=(oN ops.toList).2 j i h
  have : o'=o:=by
   have : ops[j]?=some o':=by simpa using k1
   rw [ho] at this;cases this;rfl
  subst this
  have he:=hall e (by simpa using k2) k3
  rcases k4 with k4 | ⟨k4,k5⟩
  ·subst k4;exact he
  ·obtain ⟨o2,q1,_⟩:=(oN ops.toList).2 e.on i k5
   have q1 : ops[e.on]?=some o2:=by simpa using q1
   exact ih e.on o2 (by omega) q1 (fun e' he' hb'=>hs e.on o2 q1 he e' he' hb') k5
theorem iP {i j : Nat} {l : Array Bool} (hj : j∈Region.ready .any ops l) (hne : j≠i) : j∈Region.ready .any ops (l.setIfInBounds i true):=ready_mono hj hne
def jr (P : Program) (ops : Array Oper) (C : World→Prop) (o : Oper) (v : Value) (a : Act) : Prop :=
 (Region.wanted o (yielded ops a.tmps)=true∧∀ w,C w→(execOp a.eval o).run P w=.ok (.value v) w)∨(Region.wanted o (yielded ops a.tmps)=false∧v=undef)
theorem jr.of_same {o : Oper} {v : Value} {a a' : Act} (hy : jr P ops C o v a) (he : execOp a'.eval o=execOp a.eval o) (hw : Region.wanted o (yielded ops a'.tmps)=Region.wanted o (yielded ops a.tmps)) : jr P ops C o v a':=by
 unfold jr at *
 rw [he,hw]
 exact hy
theorem jr.op {i : Nat} {o : Oper} {v : Value} {a : Act} {w : World} (hi : ops[i]?=some o) (hy : jr P ops C o v a) (hw : C w) {K : Act→World→Prop} (h : K (a.put o.dst v) w) : wpOp P ops Q i K a w:=by
 unfold wpOp
 simp only [hi]
 rcases hy with ⟨h1,h2⟩ | ⟨h1,rfl⟩
 ·rw [if_pos h1]
  left
  unfold Oper.wp
  rw [h2 w hw]
  exact h
 ·rw [if_neg (by rw [h1];exact Bool.false_ne_true)]
  exact h
theorem C8 {j : Nat} {oi oj : Oper} {v : Value} (hj : ops[j]?=some oj) (hap : oi.apart ops oj=true) (hsi : ∀ cs b,oi.op≠.select cs b) (hsj : ∀ cs b,oj.op≠.select cs b)
  (hQ : ∀ c a w,Q (.panic c) (a.put oi.dst v) w→Q (.panic c) a w) {K : Act→World→Prop} {a : Act} {w : World} (hy : jr P ops C oi v a) (h : wpOp P ops Q j K (a.put oi.dst v) w) :
  wpOp P ops Q j (fun a' w'=>jr P ops C oi v a'∧K (a'.put oi.dst v) w') a w:=by
 obtain ⟨h1,h2,h3⟩:=Oper.apart_spec hap
 have hk : ∀ (b : Act),jr P ops C oi v b→∀ u,jr P ops C oi v (b.put oj.dst u):=fun b hb u=>hb.of_same (execOp_put oi hsi b oj.dst u h3) (wanted_put oi b oj.dst u h3)
 have hsw : ∀ u,(a.put oi.dst v).put oj.dst u=(a.put oj.dst u).put oi.dst v:=fun u=>Act.put_comm a v u h2
 unfold wpOp at h ⊢
 simp only [hj] at h ⊢
 rw [wanted_put oj a oi.dst v h1] at h
 by_cases hw : Region.wanted oj (yielded ops a.tmps)=true
 ·rw [if_pos hw] at h ⊢
  rcases h with h | ⟨has,hlo⟩
  ·left
   unfold Oper.wp at h ⊢
   rw [execOp_put oj hsj a oi.dst v h1] at h
   generalize (execOp a.eval oj).run P w=r at h ⊢
   rcases r with ⟨n,w'⟩ | ⟨x,w'⟩
   ·cases n with
    | value u=>exact ⟨hk a hy u,by rw [← hsw];exact h⟩
    | skip=>exact ⟨hk a hy undef,by rw [← hsw];exact h⟩
    | defer d =>
     refine ⟨(hk a hy undef).of_same (by cases oj.dst <;> rfl) (by cases oj.dst <;> rfl),?_⟩
     rw [← Act.put_comm _ v undef h2,← Act.put_defers]
     exact h
    | enter f args =>
     refine Calls.mono h fun e w'' he=>?_
     rcases e with u | c | _
     ·exact ⟨hk a hy u,by rw [← hsw];exact he⟩
     ·exact hQ _ _ _ he
     ·exact he
    | row row args=>exact Rows.mono h fun u w'' he=>⟨hk a hy u,by rw [← hsw];exact he⟩
    | _=>exact h.elim
   ·cases x with
    | panic u=>exact hQ _ _ _ h
    | _=>exact h
  ·right
   refine ⟨?_,hlo⟩
   unfold Oper.asks at has ⊢
   rwa [execOp_put oj hsj a oi.dst v h1] at has
 ·rw [if_neg hw] at h ⊢
  exact ⟨hk a hy undef,by rw [← hsw];exact h⟩
theorem FR {i : Nat} {oi : Oper} {v : Value} {w1 : World} (hi : ops[i]?=some oi) (hsel : ∀ (j : Nat) (o : Oper) cs b,ops[j]?=some o→o.op≠.select cs b) (hQ : ∀ c a w,Q (.panic c) (a.put oi.dst v) w→Q (.panic c) a w) :
  ∀ (fuel : Nat) (l : Array Bool) (a : Act) (w : World),yy ops l →
   (∀ j oj,ops[j]?=some oj→j≠i→l.getD j true=false→waits (dC ops.toList) j i=false→oi.apart ops oj=true∧F j=true) →
   i∈Region.ready .any ops l→jr P ops (dV D w1) oi v a→dV D w1 w→qC P ops Q D F fuel (l.setIfInBounds i true) (a.put oi.dst v) w→qC P ops Q D F (fuel + 1) l a w:=by
 intro fuel
 induction fuel with
 | zero =>
  intro l a w _ _ hr hy hw H
  refine ⟨fun h=>(by rw [h] at hr;cases hr),fun j hj=>?_⟩
  by_cases hji : j=i
  ·subst hji;exact hy.op hi hw ⟨fun _=>dV.refl _ _,H⟩
  ·have:=iP hj hji
   rw [H.1] at this
   cases this
 | succ fuel ih =>
  intro l a w hs hfree hr hy hw H
  refine ⟨fun h=>(by rw [h] at hr;cases hr),fun j hj=>?_⟩
  by_cases hji : j=i
  ·subst hji;exact hy.op hi hw ⟨fun _=>dV.refl _ _,H⟩
  ·have h1:=H.2 j (iP hj hji)
   obtain ⟨hjun,oj,hoj,hall⟩:=mem_ready.1 hj
   have hi0 : l.getD i false=false:=by
    have h0:=(mem_ready.1 hr).1
    rcases Nat.lt_or_ge i l.size with h' | h'
    ·simp only [Array.getD,h',dite_true] at h0 ⊢;exact h0
    ·simp [Array.getD,Nat.not_lt.2 h']
   have hnw : waits (dC ops.toList) j i=false:=by
    cases hww : waits (dC ops.toList) j i with
    | false=>rfl
    | true=>rw [oQ hs j j oj (Nat.le_refl _) hoj hall hww] at hi0;cases hi0
   obtain ⟨hap,hF⟩:=hfree j oj hoj hji hjun hnw
   have h2:=C8 hoj hap (fun cs b=>hsel i oi cs b hi) (fun cs b=>hsel j oj cs b hoj) hQ hy h1
   refine wpOp_mono (fun a' w' h3=>⟨h3.2.1,?_⟩) h2
   refine ih (l.setIfInBounds j true) a' w' (hs.add hj) (fun k ok hk hki hun hno=>hfree k ok hk hki ?_ hno) (iP hr (Ne.symm hji)) h3.1 (hw.trans (h3.2.1 hF)) (by rw [Array.setIfInBounds_comm _ _ hji];exact h3.2.2)
   by_cases hjk : j=k
   ·subst hjk;exact hjun
   ·rw [getD_set_ne true hjk] at hun;exact hun
theorem Cs {i : Nat} {oi : Oper} {v : Value} (hi : ops[i]?=some oi) (hsel : ∀ (j : Nat) (o : Oper) cs b,ops[j]?=some o→o.op≠.select cs b) (hQ : ∀ c a w,Q (.panic c) (a.put oi.dst v) w→Q (.panic c) a w) :
  ∀ (fuel : Nat) (l : Array Bool) (a : Act) (w : World),yy ops l →
   (∀ j oj,ops[j]?=some oj→j≠i→l.getD j true=false→waits (dC ops.toList) j i=false→oi.apart ops oj=true) →
   i∈Region.ready .any ops l→jr P ops (fun _=>True) oi v a→qC P ops Q D F fuel (l.setIfInBounds i true) (a.put oi.dst v) w→qC P ops Q D F (fuel + 1) l a w:=by
 intro fuel
 induction fuel with
 | zero =>
  intro l a w _ _ hr hy H
  refine ⟨fun h=>(by rw [h] at hr;cases hr),fun j hj=>?_⟩
  by_cases hji : j=i
  ·subst hji;exact hy.op hi trivial ⟨fun _=>dV.refl _ _,H⟩
  ·have:=iP hj hji
   rw [H.1] at this
   cases this
 | succ fuel ih =>
  intro l a w hs hfree hr hy H
  refine ⟨fun h=>(by rw [h] at hr;cases hr),fun j hj=>?_⟩
  by_cases hji : j=i
  ·subst hji;exact hy.op hi trivial ⟨fun _=>dV.refl _ _,H⟩
  ·have h1:=H.2 j (iP hj hji)
   obtain ⟨hjun,oj,hoj,hall⟩:=mem_ready.1 hj
   have hi0 : l.getD i false=false:=by
    have h0:=(mem_ready.1 hr).1
    rcases Nat.lt_or_ge i l.size with h' | h'
    ·simp only [Array.getD,h',dite_true] at h0 ⊢;exact h0
    ·simp [Array.getD,Nat.not_lt.2 h']
   have hnw : waits (dC ops.toList) j i=false:=by
    cases hww : waits (dC ops.toList) j i with
    | false=>rfl
    | true=>rw [oQ hs j j oj (Nat.le_refl _) hoj hall hww] at hi0;cases hi0
   have h2:=C8 hoj (hfree j oj hoj hji hjun hnw) (fun cs b=>hsel i oi cs b hi) (fun cs b=>hsel j oj cs b hoj) hQ hy h1
   refine wpOp_mono (fun a' w' h3=>⟨h3.2.1,?_⟩) h2
   refine ih (l.setIfInBounds j true) a' w' (hs.add hj) (fun k ok hk hki hun hno=>hfree k ok hk hki ?_ hno) (iP hr (Ne.symm hji)) h3.1 (by rw [Array.setIfInBounds_comm _ _ hji];exact h3.2.2)
   by_cases hjk : j=k
   ·subst hjk;exact hjun
   ·rw [getD_set_ne true hjk] at hun;exact hun
theorem Cu {l : Array Bool} {a : Act} {w : World} (hr : Region.ready .any ops l=[]) (h : Q .normal a w) : ∀ fuel,qC P ops Q D F fuel l a w
 | 0=>⟨hr,h⟩
 | _ + 1=>⟨fun _=>h,by rw [hr];simp⟩
def reads (o : Oper) : Bool:=match o.op with
 | .store _ _ _ | .alloc _ | .box _ _ | .buildSlice _ _ _ | .makeSlice _ _ _ | .makeMap _ _ | .lookup _ _ _ _ | .mapUpdate _ _ _ _ | .insert _ _ _ _=>false
 | .call c=>(match c.callee with | .builtin .len | .builtin .cap | .builtin .min | .builtin .max=>true | _=>false)
 | _=>true
def inF (ops : Array Oper) (m j : Nat) : Bool:=(Nat.blt j m).and (match ops[j]? with
 | some o=>(match o.op with
  | .store _ _ _=>false
  | .call c=>(match c.callee with | .builtin .copy | .builtin .delete=>false | _=>true)
  | _=>true)
 | none=>true)
def zR (tab : List Nat) (ops : Array Oper) (m : Nat) (l : Array Bool) (i : Nat) : Bool:=match ops[i]? with
 | none=>false
 | some oi=>(List.range ops.size).all fun j=>(Nat.beq j i).or ((l.getD j true).or ((waits tab j i).or (match ops[j]? with
   | some oj=>(oi.apart ops oj).and (inF ops m j)
   | none=>true)))
end
end Go.Sy
