/- The words of a symbolic walk over data: expressions, cells, values; what they stand for. No program in sight. -/
import Derived.WalkKit
import Derived.Deep.Draws
namespace Go.Sy
open Go.RowKit

/-- Data of one cell; 'l': a slice, row by row. -/
inductive CD where
  | i (n : Int) | b (x : Bool) | s (l : List UInt8) | l (rows : List (List CD)) | u
instance : Inhabited CD := ⟨.u⟩
namespace CD
def int : CD → Int | .i n => n | _ => 0
def bool : CD → Bool | .b x => x | _ => false
def str : CD → List UInt8 | .s t => t | _ => []
def rows : CD → List (List CD) | .l r => r | _ => []
def row (c : CD) : List CD := c.rows.headD []
@[simp] theorem int_i (n : Int) : (CD.i n).int = n := rfl
@[simp] theorem bool_b (x : Bool) : (CD.b x).bool = x := rfl
@[simp] theorem str_s (x : List UInt8) : (CD.s x).str = x := rfl
@[simp] theorem rows_l (r : List (List CD)) : (CD.l r).rows = r := rfl
/-- Alike, of numbers, truth values, texts. -/
def eqs : CD → CD → Bool
  | .i x, .i y => x == y
  | .b x, .b y => x == y
  | .s x, .s y => x == y
  | _, _ => false
end CD
def rowEqs : List CD → List CD → Bool
  | [], [] => true
  | a :: l, b :: m => a.eqs b && rowEqs l m
  | _, _ => false

abbrev Env := Nat → CD
def Env.put (E : Env) (lo : Nat) (out : List CD) : Env := fun i => if i < lo then E i else out.getD (i - lo) .u

inductive X where
  | int (n : Int) | bool (x : Bool) | str (l : List UInt8) | var (i : Nat)
  | cell (x i : X) (o : Nat) | len (x : X) | slen (x : X)
  | add (x y : X) | sub (x y : X) | mul (x y : X) | tmod (x y : X) | tdiv (x y : X) | min (x y : X) | max (x y : X)
  | lt (x y : X) | le (x y : X) | eq (x y : X) | fit (x : X) | beq (x y : X) | seq (x y : X) | not (x : X) | and (x y : X) | or (x y : X)
  | nil | row0 | cons (d r : X) | app (x y : X) | take (n x : X) | drop (n x : X) | set (x i : X) (o : Nat) (d : X) | rep (n r : X)
  | look (x key d : X) (k o : Nat) | has (x key : X) (k : Nat)
  deriving Inhabited

def CD.find (x : List (List CD)) (key : List CD) (k : Nat) : Option (List CD) := x.find? fun r => rowEqs (r.take k) key

def X.den (E : Env) : X → CD
  | .int n => .i n
  | .bool b => .b b
  | .str l => .s l
  | .var i => E i
  | .cell x i o => ((x.den E).rows.getD (i.den E).int.toNat []).getD o .u
  | .len x => .i (x.den E).rows.length
  | .slen x => .i (x.den E).str.length
  | .add x y => .i ((x.den E).int + (y.den E).int)
  | .sub x y => .i ((x.den E).int - (y.den E).int)
  | .mul x y => .i ((x.den E).int * (y.den E).int)
  | .tmod x y => .i ((x.den E).int.tmod (y.den E).int)
  | .tdiv x y => .i ((x.den E).int.tdiv (y.den E).int)
  | .min x y => .i (if (y.den E).int < (x.den E).int then (y.den E).int else (x.den E).int)
  | .max x y => .i (if (x.den E).int < (y.den E).int then (y.den E).int else (x.den E).int)
  | .lt x y => .b (decide ((x.den E).int < (y.den E).int))
  | .le x y => .b (decide ((x.den E).int ≤ (y.den E).int))
  | .eq x y => .b ((x.den E).int == (y.den E).int)
  | .fit x => .b (decide (-9223372036854775808 ≤ (x.den E).int) && decide ((x.den E).int ≤ 9223372036854775807))
  | .beq x y => .b ((x.den E).bool == (y.den E).bool)
  | .seq x y => .b ((x.den E).str == (y.den E).str)
  | .not x => .b (!(x.den E).bool)
  | .and x y => .b ((x.den E).bool && (y.den E).bool)
  | .or x y => .b ((x.den E).bool || (y.den E).bool)
  | .nil => .l []
  | .row0 => .l [[]]
  | .cons d r => .l [d.den E :: (r.den E).row]
  | .app x y => .l ((x.den E).rows ++ (y.den E).rows)
  | .take n x => .l ((x.den E).rows.take (n.den E).int.toNat)
  | .drop n x => .l ((x.den E).rows.drop (n.den E).int.toNat)
  | .set x i o d => .l ((x.den E).rows.modify (i.den E).int.toNat fun r => r.set o (d.den E))
  | .rep n r => .l (List.replicate (n.den E).int.toNat (r.den E).row)
  | .look x key d k o => ((CD.find (x.den E).rows (key.den E).row k).getD []).getD o (d.den E)
  | .has x key k => .b (CD.find (x.den E).rows (key.den E).row k).isSome

/-! ### Alike? -/
def IntKind.same : IntKind → IntKind → Bool
  | .i8, .i8 | .i16, .i16 | .i32, .i32 | .i64, .i64 | .u8, .u8 | .u16, .u16 | .u32, .u32 | .u64, .u64 => true
  | _, _ => false
theorem IntKind.same_eq {a b : IntKind} (h : IntKind.same a b = true) : a = b := by cases a <;> cases b <;> simp_all [IntKind.same]
def intSame : Int → Int → Bool
  | .ofNat a, .ofNat b => Nat.beq a b
  | .negSucc a, .negSucc b => Nat.beq a b
  | _, _ => false
theorem intSame_eq {a b : Int} (h : intSame a b = true) : a = b := by
  cases a <;> cases b <;> simp only [intSame, Bool.false_eq_true] at h <;> rw [Nat.eq_of_beq_eq_true h]
def boolSame (a b : Bool) : Bool := if a then b else b.not
theorem boolSame_eq {a b : Bool} (h : boolSame a b = true) : a = b := by revert h; cases a <;> cases b <;> simp [boolSame]
def listSame {α : Type} (f : α → α → Bool) : List α → List α → Bool
  | [], [] => true
  | a :: l, b :: m => (f a b).and (listSame f l m)
  | _, _ => false
theorem listSame_eq {α : Type} {f : α → α → Bool} (hf : ∀ a b, f a b = true → a = b) : ∀ {l m : List α}, listSame f l m = true → l = m := by
  intro l
  induction l with
  | nil => intro m h; cases m <;> simp_all [listSame]
  | cons a l ih =>
    intro m h
    cases m <;> simp only [listSame, Bool.false_eq_true, Bool.and_eq_true] at h
    rw [hf _ _ h.1, ih h.2]
def byteSame (a b : UInt8) : Bool := Nat.beq a.toNat b.toNat
theorem byteSame_eq (a b : UInt8) (h : byteSame a b = true) : a = b := UInt8.toNat_inj.1 (Nat.eq_of_beq_eq_true h)
def pairSame (a b : Nat × Nat) : Bool := (Nat.beq a.1 b.1).and (Nat.beq a.2 b.2)
theorem pairSame_eq (a b : Nat × Nat) (h : pairSame a b = true) : a = b := by
  simp only [pairSame, Bool.and_eq_true] at h
  exact Prod.ext (Nat.eq_of_beq_eq_true h.1) (Nat.eq_of_beq_eq_true h.2)

def X.same : X → X → Bool
  | .int a, .int b => intSame a b
  | .bool a, .bool b => boolSame a b
  | .str a, .str b => listSame byteSame a b
  | .var a, .var b => Nat.beq a b
  | .cell x i o, .cell y j p => (Nat.beq o p).and ((X.same i j).and (X.same x y))
  | .len x, .len y | .slen x, .slen y | .fit x, .fit y | .not x, .not y => X.same x y
  | .add a b, .add c d | .sub a b, .sub c d | .mul a b, .mul c d | .tmod a b, .tmod c d | .tdiv a b, .tdiv c d | .min a b, .min c d | .max a b, .max c d
  | .lt a b, .lt c d | .le a b, .le c d | .eq a b, .eq c d | .beq a b, .beq c d | .seq a b, .seq c d | .and a b, .and c d | .or a b, .or c d
  | .cons a b, .cons c d | .app a b, .app c d | .take a b, .take c d | .drop a b, .drop c d | .rep a b, .rep c d => (X.same a c).and (X.same b d)
  | .nil, .nil | .row0, .row0 => true
  | .set x i o d, .set y j p e => (Nat.beq o p).and ((X.same i j).and ((X.same d e).and (X.same x y)))
  | .look x key d k o, .look y key' d' k' p => (Nat.beq o p).and ((Nat.beq k k').and ((X.same key key').and ((X.same d d').and (X.same x y))))
  | .has x key k, .has y key' k' => (Nat.beq k k').and ((X.same key key').and (X.same x y))
  | _, _ => false
theorem X.same_eq : ∀ {a b : X}, X.same a b = true → a = b := by
  intro a
  induction a with
  | int n => intro b h; cases b <;> simp only [X.same, Bool.false_eq_true] at h; rw [intSame_eq h]
  | bool n => intro b h; cases b <;> simp only [X.same, Bool.false_eq_true] at h; rw [boolSame_eq h]
  | str n => intro b h; cases b <;> simp only [X.same, Bool.false_eq_true] at h; rw [listSame_eq byteSame_eq h]
  | var n => intro b h; cases b <;> simp only [X.same, Bool.false_eq_true] at h; rw [Nat.eq_of_beq_eq_true h]
  | cell x i o ix ii =>
    intro b h
    cases b <;> simp only [X.same, Bool.false_eq_true, Bool.and_eq_true] at h
    rw [Nat.eq_of_beq_eq_true h.1, ii h.2.1, ix h.2.2]
  | len x ix | slen x ix | fit x ix | not x ix =>
    intro b h
    cases b <;> simp only [X.same, Bool.false_eq_true] at h
    rw [ix h]
  | add x y ix iy | sub x y ix iy | mul x y ix iy | tmod x y ix iy | tdiv x y ix iy | min x y ix iy | max x y ix iy | lt x y ix iy | le x y ix iy | eq x y ix iy | beq x y ix iy | seq x y ix iy | and x y ix iy | or x y ix iy
  | cons x y ix iy | app x y ix iy | take x y ix iy | drop x y ix iy | rep x y ix iy =>
    intro b h
    cases b <;> simp only [X.same, Bool.false_eq_true, Bool.and_eq_true] at h
    rw [ix h.1, iy h.2]
  | nil | row0 => intro b h; cases b <;> simp only [X.same, Bool.false_eq_true] at h <;> rfl
  | set x i o d ix ii id =>
    intro b h
    cases b <;> simp only [X.same, Bool.false_eq_true, Bool.and_eq_true] at h
    rw [Nat.eq_of_beq_eq_true h.1, ii h.2.1, id h.2.2.1, ix h.2.2.2]
  | look x key d k o ix ik id =>
    intro b h
    cases b <;> simp only [X.same, Bool.false_eq_true, Bool.and_eq_true] at h
    rw [Nat.eq_of_beq_eq_true h.1, Nat.eq_of_beq_eq_true h.2.1, ik h.2.2.1, id h.2.2.2.1, ix h.2.2.2.2]
  | has x key k ix ik =>
    intro b h
    cases b <;> simp only [X.same, Bool.false_eq_true, Bool.and_eq_true] at h
    rw [Nat.eq_of_beq_eq_true h.1, ik h.2.1, ix h.2.2]

/-- Letters below n alone. -/
def X.under (n : Nat) : X → Bool
  | .int _ | .bool _ | .str _ | .nil | .row0 => true
  | .var i => Nat.blt i n
  | .cell x i _ => (x.under n).and (i.under n)
  | .len x | .slen x | .fit x | .not x => x.under n
  | .add x y | .sub x y | .mul x y | .tmod x y | .tdiv x y | .min x y | .max x y | .lt x y | .le x y | .eq x y | .beq x y | .seq x y | .and x y | .or x y
  | .cons x y | .app x y | .take x y | .drop x y | .rep x y => (x.under n).and (y.under n)
  | .set x i _ d => (x.under n).and ((i.under n).and (d.under n))
  | .has x key _ => (x.under n).and (key.under n)
  | .look x key d _ _ => (x.under n).and ((key.under n).and (d.under n))
def Env.Agree (E : Env) (n : Nat) (F : Env) : Prop := ∀ i, i < n → E i = F i
theorem blt_lt {a b : Nat} (h : Nat.blt a b = true) : a < b := by rw [Nat.blt_eq] at h; exact h
theorem X.den_agree {n : Nat} {E F : Env} (h : E.Agree n F) : ∀ {e : X}, e.under n = true → e.den E = e.den F := by
  intro e
  induction e with
  | var i => intro u; exact h i (blt_lt u)
  | int | bool | str | nil | row0 => intro _; rfl
  | len x ix | slen x ix | fit x ix | not x ix => intro u; simp only [X.den, ix u]
  | set x i o d ix ii id =>
    intro u
    simp only [X.under, Bool.and_eq_true] at u
    simp only [X.den, ix u.1, ii u.2.1, id u.2.2]
  | look x y d k o ix iy id =>
    intro u
    simp only [X.under, Bool.and_eq_true] at u
    simp only [X.den, ix u.1, iy u.2.1, id u.2.2]
  | cell x y o ix iy | has x y k ix iy =>
    intro u
    simp only [X.under, Bool.and_eq_true] at u
    simp only [X.den, ix u.1, iy u.2]
  | add x y ix iy | sub x y ix iy | mul x y ix iy | tmod x y ix iy | tdiv x y ix iy | min x y ix iy | max x y ix iy | lt x y ix iy | le x y ix iy | eq x y ix iy | beq x y ix iy | seq x y ix iy | and x y ix iy | or x y ix iy
  | cons x y ix iy | app x y ix iy | take x y ix iy | drop x y ix iy | rep x y ix iy =>
    intro u
    simp only [X.under, Bool.and_eq_true] at u
    simp only [X.den, ix u.1, iy u.2]
theorem Env.Agree.refl (E : Env) (n : Nat) : E.Agree n E := fun _ _ => rfl
theorem Env.Agree.symm {n : Nat} {E F : Env} (h : E.Agree n F) : F.Agree n E := fun i hi => (h i hi).symm
theorem Env.Agree.trans {n : Nat} {E F G : Env} (h : E.Agree n F) (k : F.Agree n G) : E.Agree n G := fun i hi => (h i hi).trans (k i hi)
theorem Env.Agree.mono {n m : Nat} {E F : Env} (h : E.Agree n F) (hm : m ≤ n) : E.Agree m F := fun i hi => h i (by omega)
theorem Env.put_agree (E : Env) (lo : Nat) (out : List CD) : E.Agree lo (E.put lo out) := fun i hi => by simp [Env.put, hi]

/-! ### Kinds of cells, symbolic cells and values -/
inductive Kd where
  | int (k : IntKind) | bool | str | sl (by_ : Nat) (kd : List Kd)
  deriving Inhabited
mutual
def Kd.same : Kd → Kd → Bool
  | .int k, .int j => IntKind.same k j
  | .bool, .bool | .str, .str => true
  | .sl b l, .sl c m => (Nat.beq b c).and (Kd.sames l m)
  | _, _ => false
def Kd.sames : List Kd → List Kd → Bool
  | [], [] => true
  | a :: l, b :: m => (Kd.same a b).and (Kd.sames l m)
  | _, _ => false
end
mutual
theorem Kd.same_eq : ∀ (a b : Kd), Kd.same a b = true → a = b
  | .int k, b, h => by cases b <;> simp only [Kd.same, Bool.false_eq_true] at h; rw [IntKind.same_eq h]
  | .bool, b, h => by cases b <;> simp only [Kd.same, Bool.false_eq_true] at h; rfl
  | .str, b, h => by cases b <;> simp only [Kd.same, Bool.false_eq_true] at h; rfl
  | .sl b l, c, h => by
    cases c <;> simp only [Kd.same, Bool.false_eq_true, Bool.and_eq_true] at h
    rw [Nat.eq_of_beq_eq_true h.1, Kd.sames_eq l _ h.2]
theorem Kd.sames_eq : ∀ (l m : List Kd), Kd.sames l m = true → l = m
  | [], m, h => by cases m <;> simp only [Kd.sames, Bool.false_eq_true] at h; rfl
  | a :: l, m, h => by
    cases m <;> simp only [Kd.sames, Bool.false_eq_true, Bool.and_eq_true] at h
    rw [Kd.same_eq a _ h.1, Kd.sames_eq l _ h.2]
end
/-- What a slice is made of: its elements' bytes and cells. -/
structure SK where
  by_ : Nat
  kd : List Kd
  deriving Inhabited
def SK.same (a b : SK) : Bool := (Nat.beq a.by_ b.by_).and (Kd.sames a.kd b.kd)
theorem SK.same_eq {a b : SK} (h : SK.same a b = true) : a = b := by
  simp only [SK.same, Bool.and_eq_true] at h
  cases a; cases b
  simp only [SK.mk.injEq]
  exact ⟨Nat.eq_of_beq_eq_true h.1, Kd.sames_eq _ _ h.2⟩

/-- One cell. 'fz': a slice that is only read; 'fp': the address of a cell of one; 'sl': an array of one's own as a slice of n elements; 'ep': the address of cell o of element i (z cells each) of one; 'loc': of cell o of region r; 'mp': a map of one's own. -/
inductive SC where
  | any | undef | int (k : IntKind) (x : X) | bool (x : X) | str (x : X)
  | fz (K : SK) (x : X) | fp (K : SK) (x i : X) (o : Nat) | sl (a : Nat) (n : X) | ep (a z : Nat) (i : X) (o : Nat) | loc (r o : Nat)
  | nilsl | z0 | nilp | nilmap | mp (a : Nat) | fn (f : Nat) (caps : List (Nat × Nat))
  deriving Inhabited
inductive SV where
  | one (c : SC) | agg (l : List SC)
  deriving Inhabited
inductive SR where
  | v (x : SV) | tup (l : List SV)
  deriving Inhabited

def SC.same : SC → SC → Bool
  | .any, .any | .undef, .undef | .nilsl, .nilsl | .z0, .z0 | .nilp, .nilp | .nilmap, .nilmap => true
  | .int k a, .int l b => (IntKind.same k l).and (X.same a b)
  | .bool a, .bool b | .str a, .str b => X.same a b
  | .fz K a, .fz L b => (SK.same K L).and (X.same a b)
  | .fp K a i o, .fp L b j p => ((Nat.beq o p).and (SK.same K L)).and ((X.same i j).and (X.same a b))
  | .sl a n, .sl b m => (Nat.beq a b).and (X.same n m)
  | .ep a z i o, .ep b y j p => (Nat.beq a b).and ((Nat.beq z y).and ((Nat.beq o p).and (X.same i j)))
  | .loc a o, .loc b p => (Nat.beq a b).and (Nat.beq o p)
  | .mp a, .mp b => Nat.beq a b
  | .fn f c, .fn g d => (Nat.beq f g).and (listSame pairSame c d)
  | _, _ => false
theorem SC.same_eq (a b : SC) (h : SC.same a b = true) : a = b := by
  cases a <;> cases b <;> simp only [SC.same, Bool.false_eq_true, Bool.and_eq_true] at h <;> try rfl
  · rw [IntKind.same_eq h.1, X.same_eq h.2]
  · rw [X.same_eq h]
  · rw [X.same_eq h]
  · rw [SK.same_eq h.1, X.same_eq h.2]
  · rw [Nat.eq_of_beq_eq_true h.1.1, SK.same_eq h.1.2, X.same_eq h.2.1, X.same_eq h.2.2]
  · rw [Nat.eq_of_beq_eq_true h.1, X.same_eq h.2]
  · rw [Nat.eq_of_beq_eq_true h.1, Nat.eq_of_beq_eq_true h.2.1, Nat.eq_of_beq_eq_true h.2.2.1, X.same_eq h.2.2.2]
  · rw [Nat.eq_of_beq_eq_true h.1, Nat.eq_of_beq_eq_true h.2]
  · rw [Nat.eq_of_beq_eq_true h]
  · rw [Nat.eq_of_beq_eq_true h.1, listSame_eq pairSame_eq h.2]
def SV.same : SV → SV → Bool
  | .one a, .one b => SC.same a b
  | .agg a, .agg b => listSame SC.same a b
  | _, _ => false
theorem SV.same_eq (a b : SV) (h : SV.same a b = true) : a = b := by
  cases a <;> cases b <;> simp only [SV.same, Bool.false_eq_true] at h
  · rw [SC.same_eq _ _ h]
  · rw [listSame_eq SC.same_eq h]
def SR.same : SR → SR → Bool
  | .v a, .v b => SV.same a b
  | .tup a, .tup b => listSame SV.same a b
  | _, _ => false
theorem SR.same_eq (a b : SR) (h : SR.same a b = true) : a = b := by
  cases a <;> cases b <;> simp only [SR.same, Bool.false_eq_true] at h
  · rw [SV.same_eq _ _ h]
  · rw [listSame_eq SV.same_eq h]

/-! ### Where things lie; what is read -/
inductive Ow where
  | z | reg (r : Nat) | arr (a : Nat) | mp (a : Nat)
  deriving DecidableEq
/-- Where regions, arrays, maps lie; who owns a block. -/
structure Pl where
  reg : Nat → Option (Nat × Nat)
  arr : Nat → Option (Option Addr × Nat)
  mp : Nat → Option Nat
  ow : Nat → Ow
structure Pl.Le (p q : Pl) : Prop where
  reg : ∀ i x, p.reg i = some x → q.reg i = some x
  arr : ∀ i x, p.arr i = some x → q.arr i = some x
  mp : ∀ i x, p.mp i = some x → q.mp i = some x
theorem Pl.Le.refl (p : Pl) : p.Le p := ⟨fun _ _ h => h, fun _ _ h => h, fun _ _ h => h⟩
theorem Pl.Le.trans {p q r : Pl} (h : p.Le q) (k : q.Le r) : p.Le r := ⟨fun i x e => k.reg i x (h.reg i x e), fun i x e => k.arr i x (h.arr i x e), fun i x e => k.mp i x (h.mp i x e)⟩

/-- Memory that is only read: its cells. -/
abbrev Gm := Nat → Nat → Option Value
def Gm.Le (g g' : Gm) : Prop := ∀ k o v, g k o = some v → g' k o = some v
theorem Gm.Le.refl (g : Gm) : g.Le g := fun _ _ _ h => h
theorem Gm.Le.trans {a b c : Gm} (h : a.Le b) (k : b.Le c) : a.Le c := fun i o v e => k i o v (h i o v e)

/-- How many bytes a slice may take. -/
abbrev B47 : Nat := 140737488355328
mutual
/-- A cell's value reads as this. -/
def Rd (g : Gm) : Kd → Value → CD → Prop
  | .int k, v, d => ∃ n, v = .int k n ∧ d = .i n
  | .bool, v, d => ∃ b, v = .bool b ∧ d = .b b
  | .str, v, d => ∃ s : ByteArray, v = .string s ∧ d = .s s.data.toList
  | .sl by_ kd, v, d => ∃ A n c rows, v = .slice A n c ∧ d = .l rows ∧ rows.length = n ∧ n ≤ c ∧ c ≤ maxLen ∧ n * by_ ≤ B47 ∧ (0 < n → ∃ b q, A = some ⟨b, q, none⟩ ∧ ∀ i row, rows[i]? = some row → RdRow g kd (fun j => g b (q + (i * kd.length + j))) row)
def RdRow (g : Gm) : List Kd → (Nat → Option Value) → List CD → Prop
  | [], _, [] => True
  | k :: ks, f, d :: ds => (∃ v, f 0 = some v ∧ Rd g k v d) ∧ RdRow g ks (fun j => f (j + 1)) ds
  | _, _, _ => False
end
end Go.Sy
