import Derived.Test.YtpmamacjepcdmaaSyEq
namespace Go.Sy
section
variable {E : Env} {x y : X}
theorem lt_t : ((X.lt x y).den E).bool=true↔(x.den E).int < (y.den E).int:=by simp [X.den,CD.bool]
theorem le_t : ((X.le x y).den E).bool=true↔(x.den E).int≤(y.den E).int:=by simp [X.den,CD.bool]
theorem fit_t : ((X.fit x).den E).bool=true↔-9223372036854775808≤(x.den E).int∧(x.den E).int≤9223372036854775807:=by simp [X.den,CD.bool]
end
end Go.Sy

namespace Go.Sy
structure Key where
 a : Int
 b : Int
 deriving DecidableEq,Inhabited
structure bp where
 refs : Int
 k : Key
 till : Int
 inn : Bool
 next : Int
 deriving DecidableEq,Inhabited
structure Mem where
 slots : List bp
 heads : List Int
 free : List Int
 ae : List Int
 now : Int
 deriving DecidableEq
structure Cal where
 kind : Int
 k : Key
 time : Int
 bucket : Int
 slot : Int
 deriving DecidableEq,Inhabited
structure Frm where
 c : Cal
 pc : Int
 cur : Int
 prev : Int
 slot : Int
 n : Int
 keys : List Key
 done : Bool
 e : Int
 deriving DecidableEq
structure cI where
 k : Key
 slot : Int
 till : Int
 deriving DecidableEq,Inhabited
def af (l : List Int) : CD:=.l (l.map fun n=>[.i n])
def mL (l : List Bool) : CD:=.l (l.map fun b=>[.b b])
def Key.row (k : Key) : List CD:=[.i k.a,.i k.b]
def bS (l : List Key) : CD:=.l (l.map Key.row)
def bp.row (s : bp) : List CD:=[.i s.refs,.i s.k.a,.i s.k.b,.i s.till,.b s.inn,.i s.next]
def au (l : List bp) : CD:=.l (l.map bp.row)
def cI.row (f : cI) : List CD:=[.i f.k.a,.i f.k.b,.i f.slot,.i f.till]
def eM (l : List cI) : CD:=.l (l.map cI.row)
def Mem.cds (m : Mem) : List CD:=[au m.slots,af m.heads,af m.free,af m.ae,.i m.now]
def Cal.cds (c : Cal) : List CD:=[.i c.kind,.i c.k.a,.i c.k.b,.i c.time,.i c.bucket,.i c.slot]
def Frm.cds (f : Frm) : List CD:=[.i f.c.kind,.i f.c.k.a,.i f.c.k.b,.i f.c.time,.i f.c.bucket,.i f.c.slot,.i f.pc,.i f.cur,.i f.prev,.i f.slot,.i f.n,bS f.keys,.b f.done,.i f.e]
def Mem.none : Mem:=⟨[],[],[],[],0⟩
def CD.ints (d : CD) : List Int:=d.rows.map fun r=>(r.getD 0 .u).int
def Key.of (r : List CD) : Key:=⟨(r.getD 0 .u).int,(r.getD 1 .u).int⟩
def CD.keys (d : CD) : List Key:=d.rows.map Key.of
def bp.of (r : List CD) : bp:=⟨(r.getD 0 .u).int,⟨(r.getD 1 .u).int,(r.getD 2 .u).int⟩,(r.getD 3 .u).int,(r.getD 4 .u).bool,(r.getD 5 .u).int⟩
def CD.slots (d : CD) : List bp:=d.rows.map bp.of
def cI.of (r : List CD) : cI:=⟨⟨(r.getD 0 .u).int,(r.getD 1 .u).int⟩,(r.getD 2 .u).int,(r.getD 3 .u).int⟩
def CD.Gf (d : CD) : List cI:=d.rows.map cI.of
def Mem.of (l : List CD) : Mem:=⟨(l.getD 0 .u).slots,(l.getD 1 .u).ints,(l.getD 2 .u).ints,(l.getD 3 .u).ints,(l.getD 4 .u).int⟩
def Cal.of (l : List CD) : Cal:=⟨(l.getD 0 .u).int,⟨(l.getD 1 .u).int,(l.getD 2 .u).int⟩,(l.getD 3 .u).int,(l.getD 4 .u).int,(l.getD 5 .u).int⟩
def Frm.of (l : List CD) : Frm:=⟨Cal.of l,(l.getD 6 .u).int,(l.getD 7 .u).int,(l.getD 8 .u).int,(l.getD 9 .u).int,(l.getD 10 .u).int,(l.getD 11 .u).keys,(l.getD 12 .u).bool,(l.getD 13 .u).int⟩
theorem bY (l : List Int) : (af l).ints=l:=by
 simp only [af,CD.ints,CD.ax,List.map_map]
 rw [show ((fun r : List CD=>(r.getD 0 .u).int) ∘ fun n : Int=>[CD.i n])=id from rfl,List.map_id]
theorem jf (l : List Key) : (bS l).keys=l:=by
 simp only [bS,CD.keys,CD.ax,List.map_map]
 rw [show (Key.of ∘ Key.row)=id from rfl,List.map_id]
theorem kA (l : List bp) : (au l).slots=l:=by
 simp only [au,CD.slots,CD.ax,List.map_map]
 rw [show (bp.of ∘ bp.row)=id from rfl,List.map_id]
theorem mem_of (a : List bp) (b c d : List Int) (n : Int) (l : List CD) : Mem.of (au a :: af b :: af c :: af d :: .i n :: l)=⟨a,b,c,d,n⟩:=by
 simp only [Mem.of,List.getD_cons_zero,List.getD_cons_succ,kA,bY,CD.aR]
theorem aA (m : Mem) : (⟨m.slots,m.heads,m.free,m.ae,m.now⟩ : Mem)=m:=rfl
theorem fG (a b c d e f : Int) (l : List CD) : Cal.of (.i a :: .i b :: .i c :: .i d :: .i e :: .i f :: l)=⟨a,⟨b,c⟩,d,e,f⟩:=rfl
theorem cz (c : Cal) : (⟨c.kind,⟨c.k.a,c.k.b⟩,c.time,c.bucket,c.slot⟩ : Cal)=c:=rfl
theorem eZ (k : Key) : (⟨k.a,k.b⟩ : Key)=k:=rfl
theorem jK (a b : Int) (l : List CD) : Key.of (.i a :: .i b :: l)=⟨a,b⟩:=rfl
theorem dJ (a b c d e f g h i j k : Int) (ks : List Key) (x : Bool) (y : Int) (l : List CD) :
  Frm.of (.i a :: .i b :: .i c :: .i d :: .i e :: .i f :: .i g :: .i h :: .i i :: .i j :: .i k :: bS ks :: .b x :: .i y :: l)=⟨⟨a,⟨b,c⟩,d,e,f⟩,g,h,i,j,k,ks,x,y⟩:=by
 simp only [Frm.of,Cal.of,List.getD_cons_zero,List.getD_cons_succ,jf,CD.aR,CD.gB]
theorem ok_int {k : IntKind} {d : CD} (h : CD.ok (.int k) d) : ∃ n,d=.i n:=h
theorem vO {d : CD} (h : CD.ok .bool d) : ∃ b,d=.b b:=h
theorem jv {α : Type} {f : α→List CD} {R : List CD→Prop} (hR : ∀ row,R row→∃ a,row=f a) : ∀ {rows : List (List CD)},(∀ row,row∈rows→R row)→∃ l : List α,rows=l.map f
 | [],_=>⟨[],rfl⟩
 | r :: rows,h=>by
  obtain ⟨l,e⟩:=jv hR fun row hr=>h row (List.mem_cons_of_mem _ hr)
  obtain ⟨a,e'⟩:=hR r (h r (by simp))
  exact ⟨a :: l,by rw [e,e'];rfl⟩
theorem iL {b : Nat} {k : IntKind} {d : CD} (h : CD.ok (.sl b [.int k]) d) : ∃ l,d=af l∧l.length * b≤140737488355328:=by
 obtain ⟨⟨rows,rfl,h1,h2⟩,_⟩:=h
 obtain ⟨l,rfl⟩:=jv (f:=fun n : Int=>[CD.i n]) (fun row hr=>by
  match row,hr with
  | [d],⟨hd,_⟩=>obtain ⟨n,rfl⟩:=hd;exact ⟨n,rfl⟩) h2
 exact ⟨l,rfl,by simpa using h1⟩
theorem AI {b : Nat} {d : CD} (h : CD.ok (.sl b [.int .i64,.int .i64]) d) : ∃ l,d=bS l∧l.length * b≤140737488355328:=by
 obtain ⟨⟨rows,rfl,h1,h2⟩,_⟩:=h
 obtain ⟨l,rfl⟩:=jv (f:=Key.row) (fun row hr=>by
  match row,hr with
  | [x,y],⟨⟨a,ha⟩,⟨c,hc⟩,_⟩=>subst ha;subst hc;exact ⟨⟨a,c⟩,rfl⟩) h2
 exact ⟨l,rfl,by simpa using h1⟩
theorem Jq {b : Nat} {d : CD} (h : CD.ok (.sl b [.int .i64,.int .i64,.int .i64,.int .i64,.bool,.int .i64]) d) : ∃ l,d=au l∧l.length * b≤140737488355328:=by
 obtain ⟨⟨rows,rfl,h1,h2⟩,_⟩:=h
 obtain ⟨l,rfl⟩:=jv (f:=bp.row) (fun row hr=>by
  match row,hr with
  | [x,y,z,x',y',z'],⟨⟨a,ha⟩,⟨c,hc⟩,⟨d,hd⟩,⟨e,he⟩,⟨f,hf⟩,⟨g,hg⟩,_⟩=>subst ha;subst hc;subst hd;subst he;subst hf;subst hg;exact ⟨⟨a,⟨c,d⟩,e,f,g⟩,rfl⟩) h2
 exact ⟨l,rfl,by simpa using h1⟩
theorem cv {d0 d1 d2 d3 d4 : CD} (h0 : CD.ok (.sl 48 [.int .i64,.int .i64,.int .i64,.int .i64,.bool,.int .i64]) d0) (h1 : CD.ok (.sl 8 [.int .i64]) d1) (h2 : CD.ok (.sl 8 [.int .i64]) d2) (h3 : CD.ok (.sl 8 [.int .i64]) d3) (h4 : CD.ok (.int .i64) d4) :
  ∃ m : Mem,d0=au m.slots∧d1=af m.heads∧d2=af m.free∧d3=af m.ae∧d4=.i m.now∧m.slots.length * 48≤140737488355328∧m.heads.length * 8≤140737488355328∧m.free.length * 8≤140737488355328∧m.ae.length * 8≤140737488355328:=by
 obtain ⟨s,rfl,b0⟩:=Jq h0
 obtain ⟨h,rfl,b1⟩:=iL h1
 obtain ⟨f,rfl,b2⟩:=iL h2
 obtain ⟨l,rfl,b3⟩:=iL h3
 obtain ⟨n,rfl⟩:=ok_int h4
 exact ⟨⟨s,h,f,l,n⟩,rfl,rfl,rfl,rfl,rfl,b0,b1,b2,b3⟩
theorem kR {d0 d1 d2 d3 d4 d5 : CD} (h0 : CD.ok (.int .i64) d0) (h1 : CD.ok (.int .i64) d1) (h2 : CD.ok (.int .i64) d2) (h3 : CD.ok (.int .i64) d3) (h4 : CD.ok (.int .i64) d4) (h5 : CD.ok (.int .i64) d5) :
  ∃ c : Cal,d0=.i c.kind∧d1=.i c.k.a∧d2=.i c.k.b∧d3=.i c.time∧d4=.i c.bucket∧d5=.i c.slot:=by
 obtain ⟨a,rfl⟩:=ok_int h0
 obtain ⟨b,rfl⟩:=ok_int h1
 obtain ⟨c,rfl⟩:=ok_int h2
 obtain ⟨d,rfl⟩:=ok_int h3
 obtain ⟨e,rfl⟩:=ok_int h4
 obtain ⟨f,rfl⟩:=ok_int h5
 exact ⟨⟨a,⟨b,c⟩,d,e,f⟩,rfl,rfl,rfl,rfl,rfl,rfl⟩
theorem vM {d0 d1 : CD} (h0 : CD.ok (.int .i64) d0) (h1 : CD.ok (.int .i64) d1) : ∃ k : Key,d0=.i k.a∧d1=.i k.b:=by
 obtain ⟨a,rfl⟩:=ok_int h0
 obtain ⟨b,rfl⟩:=ok_int h1
 exact ⟨⟨a,b⟩,rfl,rfl⟩
theorem ja {d0 d1 d2 d3 d4 d5 d6 d7 d8 d9 d10 d11 d12 d13 : CD} (h0 : CD.ok (.int .i64) d0) (h1 : CD.ok (.int .i64) d1) (h2 : CD.ok (.int .i64) d2) (h3 : CD.ok (.int .i64) d3) (h4 : CD.ok (.int .i64) d4) (h5 : CD.ok (.int .i64) d5)
  (h6 : CD.ok (.int .i64) d6) (h7 : CD.ok (.int .i64) d7) (h8 : CD.ok (.int .i64) d8) (h9 : CD.ok (.int .i64) d9) (h10 : CD.ok (.int .i64) d10) (h11 : CD.ok (.sl 16 [.int .i64,.int .i64]) d11) (h12 : CD.ok .bool d12) (h13 : CD.ok (.int .i64) d13) :
  ∃ f : Frm,d0=.i f.c.kind∧d1=.i f.c.k.a∧d2=.i f.c.k.b∧d3=.i f.c.time∧d4=.i f.c.bucket∧d5=.i f.c.slot∧d6=.i f.pc∧d7=.i f.cur∧d8=.i f.prev∧d9=.i f.slot∧d10=.i f.n∧d11=bS f.keys∧d12=.b f.done∧d13=.i f.e∧f.keys.length * 16≤140737488355328:=by
 obtain ⟨c,rfl,rfl,rfl,rfl,rfl,rfl⟩:=kR h0 h1 h2 h3 h4 h5
 obtain ⟨g,rfl⟩:=ok_int h6
 obtain ⟨h,rfl⟩:=ok_int h7
 obtain ⟨i,rfl⟩:=ok_int h8
 obtain ⟨j,rfl⟩:=ok_int h9
 obtain ⟨k,rfl⟩:=ok_int h10
 obtain ⟨ks,rfl,b⟩:=AI h11
 obtain ⟨x,rfl⟩:=vO h12
 obtain ⟨y,rfl⟩:=ok_int h13
 exact ⟨⟨c,g,h,i,j,k,ks,x,y⟩,rfl,rfl,rfl,rfl,rfl,rfl,rfl,rfl,rfl,rfl,rfl,rfl,rfl,rfl,b⟩
theorem aN (l : List bp) : (au l).rows.length=l.length:=by simp [au]
theorem aw (l : List Int) : (af l).rows.length=l.length:=by simp [af]
theorem uZ (l : List Bool) : (mL l).rows.length=l.length:=by simp [mL]
theorem bX (l : List Key) : (bS l).rows.length=l.length:=by simp [bS]
theorem iT (l : List cI) : (eM l).rows.length=l.length:=by simp [eM]
theorem dw {α : Type} [Inhabited α] {β : Type} (f : α→List CD) (g : CD→β) (h : α→β) (o : Nat) (hd : g ((f default).getD o .u)=g .u) (hf : ∀ a,g ((f a).getD o .u)=h a) (l : List α) (i : Nat) : g (((l.map f).getD i []).getD o .u)=h (l.getD i default):=by
 induction l generalizing i with
 | nil=>simp only [List.map_nil,List.getD_nil];rw [← hf,hd]
 | cons a l ih=>cases i with
  | zero=>exact hf a
  | succ i=>exact ih i
theorem aG (l : List Int) (i : Nat) : (((af l).rows.getD i []).getD 0 .u).int=l.getD i 0:=dw (fun n : Int=>[CD.i n]) CD.int id 0 rfl (fun _=>rfl) l i
theorem nu (l : List Bool) (i : Nat) : (((mL l).rows.getD i []).getD 0 .u).bool=l.getD i false:=dw (fun n : Bool=>[CD.b n]) CD.bool id 0 rfl (fun _=>rfl) l i
theorem cX (l : List bp) (i : Nat) : (((au l).rows.getD i []).getD 0 .u).int=(l.getD i default).refs:=dw bp.row CD.int bp.refs 0 rfl (fun _=>rfl) l i
theorem cG (l : List bp) (i : Nat) : (((au l).rows.getD i []).getD 1 .u).int=(l.getD i default).k.a:=dw bp.row CD.int (·.k.a) 1 rfl (fun _=>rfl) l i
theorem cF (l : List bp) (i : Nat) : (((au l).rows.getD i []).getD 2 .u).int=(l.getD i default).k.b:=dw bp.row CD.int (·.k.b) 2 rfl (fun _=>rfl) l i
theorem cy (l : List bp) (i : Nat) : (((au l).rows.getD i []).getD 3 .u).int=(l.getD i default).till:=dw bp.row CD.int bp.till 3 rfl (fun _=>rfl) l i
theorem cx (l : List bp) (i : Nat) : (((au l).rows.getD i []).getD 4 .u).bool=(l.getD i default).inn:=dw bp.row CD.bool bp.inn 4 rfl (fun _=>rfl) l i
theorem cE (l : List bp) (i : Nat) : (((au l).rows.getD i []).getD 5 .u).int=(l.getD i default).next:=dw bp.row CD.int bp.next 5 rfl (fun _=>rfl) l i
theorem dh {α : Type} [Inhabited α] (f : α→List CD) (l : List α) (i o : Nat) (h : i < l.length) : ((l.map f).getD i []).getD o .u=(f (l.getD i default)).getD o .u:=by
 simp [List.getD_eq_getElem?_getD,h]
theorem iK {l : List Int} {i : Nat} (h : i < l.length) : ((af l).rows.getD i []).getD 0 .u=.i (l.getD i 0):=dh (fun n : Int=>[CD.i n]) l i 0 h
theorem KW {l : List bp} {i : Nat} (h : i < l.length) : ((au l).rows.getD i []).getD 0 .u=.i (l.getD i default).refs:=dh bp.row l i 0 h
theorem qc {l : List bp} {i : Nat} (h : i < l.length) : ((au l).rows.getD i []).getD 1 .u=.i (l.getD i default).k.a:=dh bp.row l i 1 h
theorem qb {l : List bp} {i : Nat} (h : i < l.length) : ((au l).rows.getD i []).getD 2 .u=.i (l.getD i default).k.b:=dh bp.row l i 2 h
theorem FO {l : List bp} {i : Nat} (h : i < l.length) : ((au l).rows.getD i []).getD 3 .u=.i (l.getD i default).till:=dh bp.row l i 3 h
theorem qa {l : List bp} {i : Nat} (h : i < l.length) : ((au l).rows.getD i []).getD 5 .u=.i (l.getD i default).next:=dh bp.row l i 5 h
theorem dQ {α : Type} (f : α→List CD) (g : List CD→List CD) (h : α→α) (hf : ∀ a,g (f a)=f (h a)) : ∀ (l : List α) (i : Nat),(l.map f).modify i g=(l.modify i h).map f
 | [],_=>by simp
 | a :: l,0=>by simp [hf]
 | a :: l,i + 1=>by simp [dQ f g h hf l i]
theorem vI (l : List bp) (i : Nat) (n : Int) : CD.l ((au l).rows.modify i fun r=>r.set 0 (.i n))=au (l.modify i fun s=>{ s with refs:=n}):=congrArg CD.l (dQ bp.row (fun r=>r.set 0 (.i n)) (fun s=>{ s with refs:=n}) (fun _=>rfl) l i)
theorem FM (l : List bp) (i : Nat) (n : Int) : CD.l ((au l).rows.modify i fun r=>r.set 1 (.i n))=au (l.modify i fun s=>{ s with k:=⟨n,s.k.b⟩}):=congrArg CD.l (dQ bp.row (fun r=>r.set 1 (.i n)) (fun s=>{ s with k:=⟨n,s.k.b⟩}) (fun _=>rfl) l i)
theorem FL (l : List bp) (i : Nat) (n : Int) : CD.l ((au l).rows.modify i fun r=>r.set 2 (.i n))=au (l.modify i fun s=>{ s with k:=⟨s.k.a,n⟩}):=congrArg CD.l (dQ bp.row (fun r=>r.set 2 (.i n)) (fun s=>{ s with k:=⟨s.k.a,n⟩}) (fun _=>rfl) l i)
theorem FK (l : List bp) (i : Nat) (n : Int) : CD.l ((au l).rows.modify i fun r=>r.set 3 (.i n))=au (l.modify i fun s=>{ s with till:=n}):=congrArg CD.l (dQ bp.row (fun r=>r.set 3 (.i n)) (fun s=>{ s with till:=n}) (fun _=>rfl) l i)
theorem CW (l : List bp) (i : Nat) (n : Bool) : CD.l ((au l).rows.modify i fun r=>r.set 4 (.b n))=au (l.modify i fun s=>{ s with inn:=n}):=congrArg CD.l (dQ bp.row (fun r=>r.set 4 (.b n)) (fun s=>{ s with inn:=n}) (fun _=>rfl) l i)
theorem CV (l : List bp) (i : Nat) (n : Int) : CD.l ((au l).rows.modify i fun r=>r.set 5 (.i n))=au (l.modify i fun s=>{ s with next:=n}):=congrArg CD.l (dQ bp.row (fun r=>r.set 5 (.i n)) (fun s=>{ s with next:=n}) (fun _=>rfl) l i)
theorem kY {α : Type} : ∀ (l : List α) (i : Nat) (a : α),l.modify i (fun _=>a)=l.set i a
 | [],_,_=>by simp
 | _ :: l,0,a=>by simp
 | _ :: l,i + 1,a=>by simp [kY l i a]
theorem iG (l : List Int) (i : Nat) (n : Int) : CD.l ((af l).rows.modify i fun r=>r.set 0 (.i n))=af (l.set i n):=by
 rw [← kY]
 exact congrArg CD.l (dQ (fun n : Int=>[CD.i n]) (fun r=>r.set 0 (.i n)) (fun _=>n) (fun _=>rfl) l i)
theorem CY (l : List Bool) (i : Nat) (n : Bool) : CD.l ((mL l).rows.modify i fun r=>r.set 0 (.b n))=mL (l.set i n):=by
 rw [← kY]
 exact congrArg CD.l (dQ (fun n : Bool=>[CD.b n]) (fun r=>r.set 0 (.b n)) (fun _=>n) (fun _=>rfl) l i)
theorem gV (l : List Int) (n : Int) : CD.l ((af l).rows ++ [[.i n]])=af (l ++ [n]):=by simp [af]
theorem cR (l : List Key) (a b : Int) : CD.l ((bS l).rows ++ [[.i a,.i b]])=bS (l ++ [⟨a,b⟩]):=by simp [bS,Key.row]
theorem Eb (l : List cI) (a b c d : Int) : CD.l ((eM l).rows ++ [[.i a,.i b,.i c,.i d]])=eM (l ++ [⟨⟨a,b⟩,c,d⟩]):=by simp [eM,cI.row]
theorem BU (l : List bp) : CD.l ((CD.l []).rows ++ (au l).rows)=au l:=rfl
theorem Dj (l : List Int) : CD.l ((CD.l []).rows ++ (af l).rows)=af l:=rfl
theorem Di (l : List Key) : CD.l ((CD.l []).rows ++ (bS l).rows)=bS l:=rfl
theorem By (l : List Int) (n : Nat) : CD.l ((af l).rows.take n)=af (l.take n):=by simp [af]
theorem keys_nil : bS []=.l []:=rfl
theorem BN (n : Nat) (b : Bool) : CD.l (List.replicate n [.b b])=mL (List.replicate n b):=by simp [mL]
theorem BM (n : Nat) : CD.l (List.replicate n [.i 0,.i 0,.i 0,.i 0,.b false,.i 0])=au (List.replicate n default):=by simp [au];right;rfl
theorem yO (l : List bp) (n : Nat) : CD.l ((au l).rows.take n)=au (l.take n):=by simp [au]
structure DC where
 sig : Sig
 pre : List CD→Prop
 fn : List CD→List CD
def DC.ct (d : DC) : Ct:=⟨d.sig,d.pre,fun i o=>o=d.fn i⟩
def gam : List (Nat × Ct)→Gam
 | [],_=>none
 | (g,c) :: l,f=>if Nat.beq g f then some c else gam l f
def sigs : List (Nat × Ct)→CT
 | []=>[]
 | (g,c) :: l=>(g,c.sig) :: sigs l
theorem xP {P : Program} : ∀ {L : List (Nat × Ct)},(∀ x∈L,cB P x.1 x.2)→∀ f sg,(sigs L).get f=some sg→∃ ct,gam L f=some ct∧ct.sig=sg∧cB P f ct
 | [],_,_,_,h=>by cases h
 | (g,c) :: l,hL,f,sg,h=>by
  simp only [sigs,CT.get] at h
  simp only [gam]
  split at h
  ·rename_i e
   cases h
   rw [if_pos e]
   refine ⟨c,rfl,rfl,?_⟩
   exact hL (f,c) (by simp [Nat.eq_of_beq_eq_true e])
  ·rename_i e
   rw [if_neg e]
   exact xP (fun x hx=>hL x (by simp [hx])) f sg h
def FOk (P : Program) (F : FT) : Prop:=∀ x∈F,P.funcs[x.1]?=some x.2∧(x.2.name == "runtime.NumGoroutine")=false∧∃ c,x.2.body=some c
theorem DO {P : Program} : ∀ {F : FT},FOk P F→∀ f fn,F.get f=some fn→P.funcs[f]?=some fn∧(fn.name == "runtime.NumGoroutine")=false∧∃ c,fn.body=some c
 | [],_,_,_,h=>by cases h
 | (u,i) :: l,hF,f,fn,h=>by
  simp only [FT.get] at h
  split at h
  ·rename_i e
   cases h
   exact hF (f,i) (by simp [Nat.eq_of_beq_eq_true e])
  ·exact DO (fun x hx=>hF x (by simp [hx])) f fn h
theorem bg {P : Program} {T : TT} {L : List (Nat × Ct)} {F : FT} {hs : List Hint} {sg : Sig} (hT : TOk P T) (hm : P.follows .mixedOrders=true) (hL : ∀ x∈L,cB P x.1 x.2) (hF : FOk P F) : Told P { T:=T,C:=sigs L,F:=F,hints:=hs,sig:=sg} (gam L) :=
 ⟨hT,fun f sg h=>xP hL f sg h,fun f fn h=>DO hF f fn h,hm⟩
section
variable {Γ : Gam} {R : List CD→Prop} {E : Env} {J : JJ} {t : Tree}
theorem xX {f : Nat} {args : List X} {lo : Nat} (d : DC) (h : Γ f=some d.ct) (hp : d.pre (args.map (X.den E))) (ht : t.den Γ R (E.put lo (d.fn (args.map (X.den E)))) J) : (Tree.call f args lo t).den Γ R E J :=
 ⟨d.ct,h,hp,fun outs _ hpost=>by have hpost : outs=d.fn (args.map (X.den E)):=hpost;rw [hpost];exact ht⟩
theorem ai {f : Nat} {args : List X} {lo : Nat} (d : DC) (o : List CD) (h : Γ f=some d.ct) (hp : d.pre (args.map (X.den E))) (ho : d.fn (args.map (X.den E))=o) (ht : t.den Γ R (E.put lo o) J) : (Tree.call f args lo t).den Γ R E J:=xX d h hp (by rw [ho];exact ht)
theorem G0 {b : X} {e : Tree} (h1 : (b.den E).bool=true→t.den Γ R E J) (h2 : (b.den E).bool=false→e.den Γ R E J) : (Tree.ite b t e).den Γ R E J:=⟨h1,h2⟩
theorem ag {b : X} (h1 : (b.den E).bool=true) (h2 : t.den Γ R E J) : (Tree.need b t).den Γ R E J:=⟨h1,h2⟩
theorem G1 {x : X} (h1 : -9223372036854775808≤(x.den E).int∧(x.den E).int≤9223372036854775807) (h2 : t.den Γ R E J) : (Tree.need (.fit x) t).den Γ R E J:=⟨fit_t.2 h1,h2⟩
theorem eh {x y : X} (h1 : (x.den E).int≤(y.den E).int) (h2 : t.den Γ R E J) : (Tree.need (.le x y) t).den Γ R E J:=⟨le_t.2 h1,h2⟩
theorem lv {x y : X} (h1 : (x.den E).int < (y.den E).int) (h2 : t.den Γ R E J) : (Tree.need (.lt x y) t).den Γ R E J:=⟨lt_t.2 h1,h2⟩
theorem bO {id : Nat} {ks : List Kd} {init : List X} (I : List CD→Prop) (m : List CD→Nat) (h0 : I (init.map (X.den E))) (h : ∀ ds,CD.oks ks ds→I ds→t.den Γ R (E.put (id + 1) ds) (J.put id fun ds'=>I ds'∧m ds' < m ds)) : (Tree.loop id ks init t).den Γ R E J:=⟨I,m,h0,h⟩
theorem tS {id : Nat} {ks : List Kd} {b : Tree} (I : List CD→Prop) (h0 : t.den Γ R E (J.put id I)) (h : ∀ ds,CD.oks ks ds→I ds→b.den Γ R (E.put (id + 1) ds) J) : (Tree.join id ks t b).den Γ R E J:=⟨I,h0,h⟩
theorem aj {outs : List X} (h : R (outs.map (X.den E))) : (Tree.ret outs).den Γ R E J:=h
theorem pJ {a b : Tree} (h : a.den Γ R E J) (k : b.den Γ R E J) : (Tree.both a b).den Γ R E J:=⟨h,k⟩
theorem C5 {id : Nat} {Y : List CD→Prop} : (J.put id Y).b id=Y:=by simp [JJ.put]
theorem aV {id : Nat} {cur : List X} {Y : List CD→Prop} (h : Y (cur.map (X.den E))) : (Tree.back id cur).den Γ R E (J.put id Y):=by
 show (J.put id Y).b id _
 rw [C5];exact h
end
end Go.Sy
namespace Go.Sy
theorem all_nil {P : Program} : ∀ x∈([] : List (Nat × Ct)),cB P x.1 x.2:=fun _ h=>by cases h
theorem all_cons {P : Program} {g : Nat} {c : Ct} {l : List (Nat × Ct)} (h : cB P g c) (H : ∀ x∈l,cB P x.1 x.2) : ∀ x∈(g,c) :: l,cB P x.1 x.2:=fun x hx=>by
 rcases List.mem_cons.1 hx with rfl | hx
 ·exact h
 ·exact H x hx
theorem bh {P : Program} : FOk P []:=fun _ h=>by cases h
theorem dX {P : Program} {g : Nat} {fn : Func} {c : Code} {l : FT} (h1 : P.funcs[g]?=some fn) (h2 : (fn.name == "runtime.NumGoroutine")=false) (h3 : fn.body=some c) (H : FOk P l) : FOk P ((g,fn) :: l):=fun x hx=>by
 rcases List.mem_cons.1 hx with rfl | hx
 ·exact ⟨h1,h2,c,h3⟩
 ·exact H x hx
def Env.pre (l : List CD) (E : Env) : Env:=fun i=>if i < l.length then l.getD i .u else E i
theorem Env.bJ {E : Env} {n : Nat} {l : List CD} (h : aH E n=l) : E=Env.pre l E:=by
 funext i
 subst h
 simp only [Env.pre,aH,List.length_map,List.length_range]
 split
 ·rename_i hi
  simp [List.getD_eq_getElem?_getD,hi]
 ·rfl
theorem aD {P : Program} {Z : Cx} {Γ : Gam} (S : Told P Z Γ) {f : FuncId} {fn : Func} {c : Code} {fuel m : Nat} {t : Tree} {d : DC} (hf : P.funcs[f]?=some fn) (hb : fn.body=some c) (hname : (fn.name == "runtime.NumGoroutine")=false) (hsig : Z.sig=d.sig)
  (ht : run Z fuel [.code c,.fin (bt Z fn.results.toList m)] { fn:=f,tmps:=Z.sig.aM ++ List.replicate (fn.ntmps - Z.sig.aM.length) (.v (.one .undef)),stk:=[],h:=Z.sig.h0,nx:=Z.sig.ins.length,known:=[]}=t)
  (hd : ∀ E : Env,CD.oks d.sig.Jv (aH E d.sig.ins.length)→d.pre (aH E d.sig.ins.length)→t.den Γ (fun outs=>outs=d.fn (aH E d.sig.ins.length)) E JJ.none) : cB P f d.ct :=
 wz S hf hb hname hsig ht hd
theorem nrm : (∀ {α β : Type} {f : α→β} {a : α} {l : List α},(a :: l).map f=f a :: l.map f)∧(∀ {α β : Type} {f : α→β},([] : List α).map f=[])∧(∀ {α : Type} {a : α} {l : List α},(a :: l).length=l.length + 1)∧(∀ {α : Type},([] : List α).length=0)∧(∀ n : Nat,0 + n=n)∧(∀ n : Int,(CD.i n).int=n)∧(∀ b : Bool,(CD.b b).bool=b)∧(∀ r : List (List CD),(CD.l r).rows=r) ∧
  (∀ {p : Prop} [Decidable p],(decide p=true)↔p)∧(∀ {p : Prop} [Decidable p],(decide p=false)↔¬ p)∧(∀ {α : Type} [BEq α] [LawfulBEq α] {a b : α},(a ==b)=true↔a=b)∧(∀ {α : Type} [BEq α] [LawfulBEq α] {a b : α},(a ==b)=false↔a≠b) ∧
  (∀ {α : Type} {x : α} {xs : List α} {d : α},(x :: xs).getD 0 d=x)∧(∀ {α : Type} {x : α} {xs : List α} {n : Nat} {d : α},(x :: xs).getD (n + 1) d=xs.getD n d)∧(∀ n : Nat,(n < n)↔False)∧(∀ n : Nat,n - n=0) :=
 ⟨List.map_cons,List.map_nil,List.length_cons,List.length_nil,Nat.zero_add,fun _=>rfl,fun _=>rfl,fun _=>rfl,decide_eq_true_iff,decide_eq_false_iff_not,beq_iff_eq,beq_eq_false_iff_ne,List.getD_cons_zero,List.getD_cons_succ,fun n=>⟨Nat.lt_irrefl n,False.elim⟩,Nat.sub_self⟩
theorem xdn : (∀ (E : Env) (n : Int),(X.int n).den E=.i n)∧(∀ (E : Env) (b : Bool),(X.bool b).den E=.b b)∧(∀ (E : Env) (l : List UInt8),(X.str l).den E=.s l)∧(∀ (E : Env) (i : Nat),(X.var i).den E=E i)∧(∀ (E : Env) (x : X) (i : X) (o : Nat),(X.cell x i o).den E=((x.den E).rows.getD (i.den E).int.toNat []).getD o .u)∧(∀ (E : Env) (x : X),(X.len x).den E=.i (x.den E).rows.length) ∧
  (∀ (E : Env) (x : X),(X.slen x).den E=.i (x.den E).str.length)∧(∀ (E : Env) (x : X) (y : X),(X.add x y).den E=.i ((x.den E).int + (y.den E).int))∧(∀ (E : Env) (x : X) (y : X),(X.sub x y).den E=.i ((x.den E).int - (y.den E).int))∧(∀ (E : Env) (x : X) (y : X),(X.mul x y).den E=.i ((x.den E).int * (y.den E).int))∧(∀ (E : Env) (x : X) (y : X),(X.tmod x y).den E=.i ((x.den E).int.tmod (y.den E).int))∧(∀ (E : Env) (x : X) (y : X),(X.tdiv x y).den E=.i ((x.den E).int.tdiv (y.den E).int)) ∧
  (∀ (E : Env) (x : X) (y : X),(X.min x y).den E=.i (if (y.den E).int < (x.den E).int then (y.den E).int else (x.den E).int))∧(∀ (E : Env) (x : X) (y : X),(X.max x y).den E=.i (if (x.den E).int < (y.den E).int then (y.den E).int else (x.den E).int))∧(∀ (E : Env) (x : X) (y : X),(X.lt x y).den E=.b (decide ((x.den E).int < (y.den E).int)))∧(∀ (E : Env) (x : X) (y : X),(X.le x y).den E=.b (decide ((x.den E).int≤(y.den E).int)))∧(∀ (E : Env) (x : X) (y : X),(X.eq x y).den E=.b ((x.den E).int ==(y.den E).int))∧(∀ (E : Env) (x : X),(X.fit x).den E=.b (decide (-9223372036854775808≤(x.den E).int) && decide ((x.den E).int≤9223372036854775807))) ∧
  (∀ (E : Env) (x : X) (y : X),(X.beq x y).den E=.b ((x.den E).bool ==(y.den E).bool))∧(∀ (E : Env) (x : X) (y : X),(X.seq x y).den E=.b ((x.den E).str ==(y.den E).str))∧(∀ (E : Env) (x : X),(X.not x).den E=.b (!(x.den E).bool))∧(∀ (E : Env) (x : X) (y : X),(X.and x y).den E=.b ((x.den E).bool && (y.den E).bool))∧(∀ (E : Env) (x : X) (y : X),(X.or x y).den E=.b ((x.den E).bool || (y.den E).bool))∧(∀ (E : Env),(X.nil).den E=.l []) ∧
  (∀ (E : Env),(X.row0).den E=.l [[]])∧(∀ (E : Env) (d : X) (r : X),(X.cons d r).den E=.l [d.den E :: (r.den E).row])∧(∀ (E : Env) (x : X) (y : X),(X.app x y).den E=.l ((x.den E).rows ++ (y.den E).rows))∧(∀ (E : Env) (n : X) (x : X),(X.take n x).den E=.l ((x.den E).rows.take (n.den E).int.toNat))∧(∀ (E : Env) (n : X) (x : X),(X.drop n x).den E=.l ((x.den E).rows.drop (n.den E).int.toNat))∧(∀ (E : Env) (x : X) (i : X) (o : Nat) (d : X),(X.set x i o d).den E=.l ((x.den E).rows.modify (i.den E).int.toNat fun r=>r.set o (d.den E))) ∧
  (∀ (E : Env) (n : X) (r : X),(X.rep n r).den E=.l (List.replicate (n.den E).int.toNat (r.den E).row))∧(∀ (E : Env) (x : X) (key : X) (d : X) (k : Nat) (o : Nat),(X.look x key d k o).den E=((CD.find (x.den E).rows (key.den E).row k).getD []).getD o (d.den E))∧(∀ (E : Env) (x : X) (key : X) (k : Nat),(X.has x key k).den E=.b (CD.find (x.den E).rows (key.den E).row k).isSome)∧(∀ (E : Env) (x : X),(X.own x).den E=.o (x.den E).rows)∧(∀ (E : Env) (x : X),(X.shut x).den E=(x.den E).shut)∧(∀ (E : Env) (x : X),(X.isO x).den E=.b (x.den E).isO) ∧
  (∀ (E : Env) (x : X),(X.isL x).den E=.b (x.den E).isL)∧(∀ (E : Env) (a : Nat) (n : X),(X.ref a n).den E=.h a (n.den E).int.toNat)∧(∀ (E : Env) (x : X) (j : Nat),(X.clean x j).den E=.b ((x.den E).rows.all fun r=>!(r.getD j .u).isH))∧(∀ (E : Env) (x : X) (j : Nat),(X.shuts x j).den E=.l ((x.den E).rows.map fun r=>r.modify j CD.shut))∧(∀ (E : Env) (lo : Nat) (out : List CD) (i : Nat),E.put lo out i=if i < lo then E i else out.getD (i - lo) .u)∧(∀ (ds : List CD) (E : Env) (i : Nat),Env.pre ds E i=if i < ds.length then ds.getD i .u else E i):=by
 repeat' apply And.intro
 all_goals intros;rfl
end Go.Sy
