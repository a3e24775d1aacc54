import Derived.Test.YtpmamacjepcdmaaCRef2
namespace Go.Proofs.Ytpmamacjepcdmaa
open Go Go.Sy Go.RowKit
set_option linter.unusedSimpArgs false
set_option linter.unusedVariables false
def s66 : Sig:=⟨[.ptr [.own 52 kS,.own 3 kI,.own 3 kI,.own 3 kI,.int .i64],.agg [.int .i64,.int .i64],.one (.int .i64)],[.one (.int .i64),.one (.bool)]⟩
def d66 : DC:=⟨s66,fun l=>(Mem.of l).free.length≤1000∧((Mem.of l).free.length=0∨(0≤bc (Mem.of l)∧bc (Mem.of l) < (Mem.of l).slots.length)),fun l=>(take (Mem.of l) (Key.of (l.drop 5)) (l.getD 7 .u).int).1.cds ++ [.i (take (Mem.of l) (Key.of (l.drop 5)) (l.getD 7 .u).int).2.1,.b (decide ((take (Mem.of l) (Key.of (l.drop 5)) (l.getD 7 .u).int).2.2=0))]⟩
theorem fn66 (m : Mem) (k : Key) (x : Int) : d66.fn [au m.slots,af m.heads,af m.free,af m.locks,.i m.now,.i k.a,.i k.b,.i x]=(take m k x).1.cds ++ [.i (take m k x).2.1,.b (decide ((take m k x).2.2=0))]:=by simp only [d66,mem_of,aA,List.drop_succ_cons,List.drop_zero,jK,eZ,List.getD_cons_zero,List.getD_cons_succ,CD.aR]
def l66 : List (Nat × Ct):=[]
def z66 : Cx:={ T:=ttA,C:=sigs l66,F:=[],hints:=[],sig:=s66}
def t66 : Tree :=
 (.ite (.eq (.len (.var 2)) (.int 0))
 (.ret [.var 0,.var 1,.var 2,.var 3,.var 4,.int 0,.bool false])
 (.need (.fit (.sub (.len (.var 2)) (.int 1)))
 (.need (.le (.int 0) (.sub (.len (.var 2)) (.int 1)))
 (.need (.lt (.sub (.len (.var 2)) (.int 1)) (.len (.var 2)))
 (.need (.le (.sub (.len (.var 2)) (.int 1)) (.len (.var 2)))
 (.need (.le (.len (.take (.sub (.len (.var 2)) (.int 1)) (.var 2))) (.int 17592186044416))
 (.need (.le (.int 0) (.cell (.var 2) (.sub (.len (.var 2)) (.int 1)) 0))
 (.need (.lt (.cell (.var 2) (.sub (.len (.var 2)) (.int 1)) 0) (.len (.var 0)))
 (.ret [.set (.set (.set (.set (.set (.set (.var 0) (.cell (.var 2) (.sub (.len (.var 2)) (.int 1)) 0) 0 (.int 1)) (.cell (.var 2) (.sub (.len (.var 2)) (.int 1)) 0) 1 (.var 5)) (.cell (.var 2) (.sub (.len (.var 2)) (.int 1)) 0) 2 (.var 6)) (.cell (.var 2) (.sub (.len (.var 2)) (.int 1)) 0) 3 (.var 7)) (.cell (.var 2) (.sub (.len (.var 2)) (.int 1)) 0) 4 (.bool false)) (.cell (.var 2) (.sub (.len (.var 2)) (.int 1)) 0) 5 (.cell (.var 0) (.cell (.var 2) (.sub (.len (.var 2)) (.int 1)) 0) 5),.var 1,.app .nil (.take (.sub (.len (.var 2)) (.int 1)) (.var 2)),.var 3,.var 4,.cell (.var 2) (.sub (.len (.var 2)) (.int 1)) 0,.bool true])))))))))
theorem run66 : run z66 6000 [.code (Try.f66.body.getD .skip),.fin (bt z66 Try.f66.results.toList 50)] { fn:=66,tmps:=z66.sig.aM ++ List.replicate (Try.f66.ntmps - z66.sig.aM.length) (.v (.one .undef)),stk:=[],h:=z66.sig.h0,nx:=z66.sig.ins.length,known:=[]}=t66:=by kernel_rfl
theorem ok66 : cB Try.prog 66 d66.ct:=by
 refine aD (d:=d66) (Z:=z66) (Γ:=gam l66) (fn:=Try.f66) (c:=Try.f66.body.getD .skip) (bg tok mixed all_nil bh) Try.func66 (by kernel_rfl) (by kernel_rfl) rfl run66 fun E hk hp=>?_
 obtain ⟨hk0,hk1,hk2,hk3,hk4,hk5,hk6,hk7,_⟩:=hk
 obtain ⟨m,e0,e1,e2,e3,e4,b0,b1,b2,b3⟩:=cv (d0:=E 0) (d1:=E 1) (d2:=E 2) (d3:=E 3) (d4:=E 4) hk0 hk1 hk2 hk3 hk4
 obtain ⟨k,e5,e6⟩:=vM (d0:=E 5) (d1:=E 6) hk5 hk6
 obtain ⟨x,e7⟩:=ok_int (d:=E 7) hk7
 have el : aH E d66.sig.ins.length=[au m.slots,af m.heads,af m.free,af m.locks,.i m.now,.i k.a,.i k.b,.i x]:=by
  show [E 0,E 1,E 2,E 3,E 4,E 5,E 6,E 7]=_
  rw [e0,e1,e2,e3,e4,e5,e6,e7]
 rw [el] at hp
 rw [el]
 rw [Env.bJ el]
 clear el e0 e1 e2 e3 e4 e5 e6 e7
 simp only [d66,mem_of,aA] at hp
 obtain ⟨hf,hp⟩:=hp
 rw [fn66]
 unfold t66
 refine G0 (fun h=>aj ?_) (fun h=>?_)
 ·simp only [nrm,xdn,reduceIte,Nat.reduceLT,Nat.reduceSub,Nat.reduceAdd,aw] at h
  have ht : take m k x=(m,0,7):=by unfold take;rw [if_pos (by omega)]
  rw [ht]
  simp only [nrm,xdn,reduceIte,Nat.reduceLT,Nat.reduceSub,Nat.reduceAdd,Mem.cds];rfl
 simp only [nrm,xdn,reduceIte,Nat.reduceLT,Nat.reduceSub,Nat.reduceAdd,aw] at h
 have ht : take m k x=({ m with slots:=m.slots.modify (bc m).toNat (cp k x),free:=m.free.take (m.free.length - 1)},bc m,0):=by unfold take;rw [if_neg (by omega)]
 rw [ht]
 have e : ((m.free.length : Int) - 1).toNat=m.free.length - 1:=by omega
 have e2 : m.free.getD (m.free.length - 1) 0=bc m:=rfl
 have e3 : ((af m.free).rows.getD (m.free.length - 1) []).getD 0 .u=.i (bc m):=iK (by omega)
 have e4 : ((au m.slots).rows.getD (bc m).toNat []).getD 5 .u=.i (msl m (bc m).toNat).next:=qa (by omega)
 have e5 : (((af m.free).rows.take (m.free.length - 1)).length : Int)=(m.free.length : Int) - 1:=by simp [af];omega
 refine G1 (by simp only [nrm,xdn,reduceIte,Nat.reduceLT,Nat.reduceSub,Nat.reduceAdd,aw];omega) (ag (by simp only [nrm,xdn,reduceIte,Nat.reduceLT,Nat.reduceSub,Nat.reduceAdd,aw];omega) (ag (by simp only [nrm,xdn,reduceIte,Nat.reduceLT,Nat.reduceSub,Nat.reduceAdd,aw];omega) (ag (by simp only [nrm,xdn,reduceIte,Nat.reduceLT,Nat.reduceSub,Nat.reduceAdd,aw];omega) (eh (by simp only [nrm,xdn,reduceIte,Nat.reduceLT,Nat.reduceSub,Nat.reduceAdd,aw,e,e5];omega) (ag (by simp only [nrm,xdn,reduceIte,Nat.reduceLT,Nat.reduceSub,Nat.reduceAdd,aw,e,aG,e2];omega) (ag (by simp only [nrm,xdn,reduceIte,Nat.reduceLT,Nat.reduceSub,Nat.reduceAdd,aw,e,aG,e2,aN];omega) (aj ?_)))))))
 simp only [nrm,xdn,reduceIte,Nat.reduceLT,Nat.reduceSub,Nat.reduceAdd,aw,e,aG,e2,e3,e4,vI,FM,FL,FK,CW,CV,aC,By,Dj,Mem.cds,lca,decide_true]
 rw [Hw (fun s : bp=>(⟨1,⟨k.a,k.b⟩,x,false,(msl m (bc m).toNat).next⟩ : bp)) (cp k x) m.slots (bc m).toNat rfl]
 rfl
def s67 : Sig:=⟨[.ptr [.own 52 kS,.own 3 kI,.own 3 kI,.own 3 kI,.int .i64],.one (.int .i64)],[.one (.bool)]⟩
def d67 : DC:=⟨s67,fun l=>0≤(l.getD 5 .u).int∧(l.getD 5 .u).int < (Mem.of l).slots.length∧0≤(msl (Mem.of l) (l.getD 5 .u).int.toNat).refs∧(msl (Mem.of l) (l.getD 5 .u).int.toNat).refs≤1000,fun l=>(hold (Mem.of l) (l.getD 5 .u).int).1.cds ++ [.b (hold (Mem.of l) (l.getD 5 .u).int).2]⟩
theorem fn67 (m : Mem) (x : Int) : d67.fn [au m.slots,af m.heads,af m.free,af m.locks,.i m.now,.i x]=(hold m x).1.cds ++ [.b (hold m x).2]:=by simp only [d67,mem_of,aA,List.getD_cons_zero,List.getD_cons_succ,CD.aR]
def l67 : List (Nat × Ct):=[]
def z67 : Cx:={ T:=ttA,C:=sigs l67,F:=[],hints:=[],sig:=s67}
def t67 : Tree :=
 (.need (.le (.int 0) (.var 5))
 (.need (.lt (.var 5) (.len (.var 0)))
 (.ite (.lt (.int 0) (.cell (.var 0) (.var 5) 0))
 (.ite (.lt (.cell (.var 0) (.var 5) 0) (.int 1000))
 (.need (.fit (.add (.cell (.var 0) (.var 5) 0) (.int 1)))
 (.ret [.set (.var 0) (.var 5) 0 (.add (.cell (.var 0) (.var 5) 0) (.int 1)),.var 1,.var 2,.var 3,.var 4,.bool true]))
 (.ret [.var 0,.var 1,.var 2,.var 3,.var 4,.bool false]))
 (.ret [.var 0,.var 1,.var 2,.var 3,.var 4,.bool false]))))
theorem run67 : run z67 6000 [.code (Try.f67.body.getD .skip),.fin (bt z67 Try.f67.results.toList 50)] { fn:=67,tmps:=z67.sig.aM ++ List.replicate (Try.f67.ntmps - z67.sig.aM.length) (.v (.one .undef)),stk:=[],h:=z67.sig.h0,nx:=z67.sig.ins.length,known:=[]}=t67:=by kernel_rfl
theorem ok67 : cB Try.prog 67 d67.ct:=by
 refine aD (d:=d67) (Z:=z67) (Γ:=gam l67) (fn:=Try.f67) (c:=Try.f67.body.getD .skip) (bg tok mixed all_nil bh) Try.func67 (by kernel_rfl) (by kernel_rfl) rfl run67 fun E hk hp=>?_
 obtain ⟨hk0,hk1,hk2,hk3,hk4,hk5,_⟩:=hk
 obtain ⟨m,e0,e1,e2,e3,e4,b0,b1,b2,b3⟩:=cv (d0:=E 0) (d1:=E 1) (d2:=E 2) (d3:=E 3) (d4:=E 4) hk0 hk1 hk2 hk3 hk4
 obtain ⟨x,e5⟩:=ok_int (d:=E 5) hk5
 have el : aH E d67.sig.ins.length=[au m.slots,af m.heads,af m.free,af m.locks,.i m.now,.i x]:=by
  show [E 0,E 1,E 2,E 3,E 4,E 5]=_
  rw [e0,e1,e2,e3,e4,e5]
 rw [el] at hp
 rw [el]
 rw [Env.bJ el]
 clear el e0 e1 e2 e3 e4 e5
 rw [fn67]
 simp only [d67,mem_of,aA,List.getD_cons_zero,List.getD_cons_succ,CD.aR] at hp
 unfold hold
 unfold t67
 have hm : m.slots.getD x.toNat default=msl m x.toNat:=rfl
 refine ag (by simp only [nrm,xdn,reduceIte,Nat.reduceLT,Nat.reduceSub,Nat.reduceAdd];omega) (ag (by simp only [nrm,xdn,reduceIte,Nat.reduceLT,Nat.reduceSub,Nat.reduceAdd,aN];omega) (G0 (fun h=>G0 (fun h'=>?_) (fun h'=>aj ?_)) (fun h=>aj ?_)))
 ·simp only [nrm,xdn,reduceIte,Nat.reduceLT,Nat.reduceSub,Nat.reduceAdd,cX,hm] at h h'
  rw [if_neg (by omega)]
  refine G1 (by simp only [nrm,xdn,reduceIte,Nat.reduceLT,Nat.reduceSub,Nat.reduceAdd,cX,hm];omega) (aj ?_)
  simp only [nrm,xdn,reduceIte,Nat.reduceLT,Nat.reduceSub,Nat.reduceAdd,cX,hm,vI,Mem.cds,lca]
  rw [show (m.slots.modify x.toNat fun s=>{ s with refs:=(msl m x.toNat).refs + 1})=m.slots.modify x.toNat (bx 1) from Hw (fun s=>{ s with refs:=(msl m x.toNat).refs + 1}) (bx 1) m.slots x.toNat rfl]
 ·simp only [nrm,xdn,reduceIte,Nat.reduceLT,Nat.reduceSub,Nat.reduceAdd,cX,hm] at h h'
  rw [if_pos (.inr (by omega))]
  simp only [nrm,xdn,reduceIte,Nat.reduceLT,Nat.reduceSub,Nat.reduceAdd,Mem.cds];rfl
 ·simp only [nrm,xdn,reduceIte,Nat.reduceLT,Nat.reduceSub,Nat.reduceAdd,cX,hm] at h
  rw [if_pos (.inl (by omega))]
  simp only [nrm,xdn,reduceIte,Nat.reduceLT,Nat.reduceSub,Nat.reduceAdd,Mem.cds];rfl
def s68 : Sig:=⟨[.ptr [.own 52 kS,.own 3 kI,.own 3 kI,.own 3 kI,.int .i64],.one (.int .i64)],[]⟩
def d68 : DC:=⟨s68,fun l=>0≤(l.getD 5 .u).int∧(l.getD 5 .u).int < (Mem.of l).slots.length∧0≤(msl (Mem.of l) (l.getD 5 .u).int.toNat).refs∧(msl (Mem.of l) (l.getD 5 .u).int.toNat).refs≤1000∧(Mem.of l).free.length≤1000,fun l=>(put (Mem.of l) (l.getD 5 .u).int).cds⟩
theorem fn68 (m : Mem) (x : Int) : d68.fn [au m.slots,af m.heads,af m.free,af m.locks,.i m.now,.i x]=(put m x).cds:=by simp only [d68,mem_of,aA,List.getD_cons_zero,List.getD_cons_succ,CD.aR]
def l68 : List (Nat × Ct):=[]
def z68 : Cx:={ T:=ttA,C:=sigs l68,F:=[],hints:=[],sig:=s68}
def t68 : Tree :=
 (.need (.le (.int 0) (.var 5))
 (.need (.lt (.var 5) (.len (.var 0)))
 (.ite (.eq (.cell (.var 0) (.var 5) 0) (.int 0))
 (.ret [.var 0,.var 1,.var 2,.var 3,.var 4])
 (.ite (.eq (.cell (.var 0) (.var 5) 0) (.int 1))
 (.need (.le (.len (.var 2)) (.int 17592186044416))
 (.need (.le (.add (.len (.var 2)) (.int 1)) (.int 17592186044416))
 (.ret [.set (.var 0) (.var 5) 0 (.int 0),.var 1,.app (.app .nil (.var 2)) (.cons (.var 5) .row0),.var 3,.var 4])))
 (.need (.fit (.sub (.cell (.var 0) (.var 5) 0) (.int 1)))
 (.ret [.set (.var 0) (.var 5) 0 (.sub (.cell (.var 0) (.var 5) 0) (.int 1)),.var 1,.var 2,.var 3,.var 4]))))))
theorem run68 : run z68 6000 [.code (Try.f68.body.getD .skip),.fin (bt z68 Try.f68.results.toList 50)] { fn:=68,tmps:=z68.sig.aM ++ List.replicate (Try.f68.ntmps - z68.sig.aM.length) (.v (.one .undef)),stk:=[],h:=z68.sig.h0,nx:=z68.sig.ins.length,known:=[]}=t68:=by kernel_rfl
theorem ok68 : cB Try.prog 68 d68.ct:=by
 refine aD (d:=d68) (Z:=z68) (Γ:=gam l68) (fn:=Try.f68) (c:=Try.f68.body.getD .skip) (bg tok mixed all_nil bh) Try.func68 (by kernel_rfl) (by kernel_rfl) rfl run68 fun E hk hp=>?_
 obtain ⟨hk0,hk1,hk2,hk3,hk4,hk5,_⟩:=hk
 obtain ⟨m,e0,e1,e2,e3,e4,b0,b1,b2,b3⟩:=cv (d0:=E 0) (d1:=E 1) (d2:=E 2) (d3:=E 3) (d4:=E 4) hk0 hk1 hk2 hk3 hk4
 obtain ⟨x,e5⟩:=ok_int (d:=E 5) hk5
 have el : aH E d68.sig.ins.length=[au m.slots,af m.heads,af m.free,af m.locks,.i m.now,.i x]:=by
  show [E 0,E 1,E 2,E 3,E 4,E 5]=_
  rw [e0,e1,e2,e3,e4,e5]
 rw [el] at hp
 rw [el]
 rw [Env.bJ el]
 clear el e0 e1 e2 e3 e4 e5
 rw [fn68]
 simp only [d68,mem_of,aA,List.getD_cons_zero,List.getD_cons_succ,CD.aR] at hp
 unfold put
 unfold t68
 have hm : m.slots.getD x.toNat default=msl m x.toNat:=rfl
 refine ag (by simp only [nrm,xdn,reduceIte,Nat.reduceLT,Nat.reduceSub,Nat.reduceAdd];omega) (ag (by simp only [nrm,xdn,reduceIte,Nat.reduceLT,Nat.reduceSub,Nat.reduceAdd,aN];omega) (G0 (fun h=>aj ?_) (fun h=>G0 (fun h'=>?_) (fun h'=>?_))))
 ·simp only [nrm,xdn,reduceIte,Nat.reduceLT,Nat.reduceSub,Nat.reduceAdd,cX,hm] at h
  rw [if_pos h]
  simp only [nrm,xdn,reduceIte,Nat.reduceLT,Nat.reduceSub,Nat.reduceAdd,Mem.cds]
 ·simp only [nrm,xdn,reduceIte,Nat.reduceLT,Nat.reduceSub,Nat.reduceAdd,cX,hm] at h h'
  rw [if_neg h,if_pos h']
  have hw : (m.slots.modify x.toNat fun s=>{ s with refs:=0})=m.slots.modify x.toNat (bx (-1)):=Hw (fun s=>{ s with refs:=0}) (bx (-1)) m.slots x.toNat (by
   have : (m.slots.getD x.toNat default).refs=1:=h'
   simp only [bx,this];rfl)
  refine eh (by simp only [nrm,xdn,reduceIte,Nat.reduceLT,Nat.reduceSub,Nat.reduceAdd,aw];omega) (eh (by simp only [nrm,xdn,reduceIte,Nat.reduceLT,Nat.reduceSub,Nat.reduceAdd,aw];omega) (aj ?_))
  simp only [nrm,xdn,reduceIte,Nat.reduceLT,Nat.reduceSub,Nat.reduceAdd,cX,hm,vI,Mem.cds,CD.row,List.headD_cons,Dj,gV,hw,List.nil_append]
 ·simp only [nrm,xdn,reduceIte,Nat.reduceLT,Nat.reduceSub,Nat.reduceAdd,cX,hm] at h h'
  rw [if_neg h,if_neg h']
  have hw : (m.slots.modify x.toNat fun s=>{ s with refs:=(msl m x.toNat).refs - 1})=m.slots.modify x.toNat (bx (-1)):=Hw (fun s=>{ s with refs:=(msl m x.toNat).refs - 1}) (bx (-1)) m.slots x.toNat rfl
  refine G1 (by simp only [nrm,xdn,reduceIte,Nat.reduceLT,Nat.reduceSub,Nat.reduceAdd,cX,hm];omega) (aj ?_)
  simp only [nrm,xdn,reduceIte,Nat.reduceLT,Nat.reduceSub,Nat.reduceAdd,cX,hm,vI,Mem.cds,hw]
end Go.Proofs.Ytpmamacjepcdmaa

namespace Go.Proofs.Ytpmamacjepcdmaa
open Go Go.Sy Go.RowKit
set_option linter.unusedSimpArgs false
set_option linter.unusedVariables false
theorem fj {Γ : Gam} {R : List CD→Prop} {E : Env} {J : JJ} {id id2 : Nat} {cur : List X} {Y Y2 : List CD→Prop} (hne : id≠id2) (h : Y (cur.map (X.den E))) : (Tree.back id cur).den Γ R E ((J.put id Y).put id2 Y2):=by
 show ((J.put id Y).put id2 Y2).b id _
 simp only [JJ.put,if_neg hne,if_true]
 exact h
def walk (m : Mem) : Nat→Int→Option (List Int × Int)
 | 0,_=>none
 | f + 1,n=>if n≤0 then some ([],n) else (walk m f (msl m (n - 1).toNat).next).map fun p=>((n - 1) :: p.1,p.2)
theorem oP {m : Mem} {f : Nat} {n : Int} (h : n≤0) : walk m (f + 1) n=some ([],n):=by simp only [walk,if_pos h]
theorem oO {m : Mem} {f : Nat} {n : Int} (h : ¬ n≤0) : walk m (f + 1) n=(walk m f (msl m (n - 1).toNat).next).map fun p=>((n - 1) :: p.1,p.2):=by simp only [walk,if_neg h]
def aO (m : Mem) (b : Int) : Int:=m.heads.getD b.toNat 0
def walked (m : Mem) (b : Int) : Option (List Int × Int):=walk m (m.slots.length + 1) (aO m b)
def cQ (m : Mem) (b : Int) : Option (List Int):=match walked m b with
 | some p=>if p.2=-1 - b then some p.1 else none
 | none=>none
def bP (m : Mem) (b : Int) : List Int × Int:=match cQ m b with
 | some l=>(l,0)
 | none=>([],4)
def Hn (m : Mem) (b : Int) : List Int × Bool:=match walked m b with
 | some p=>(p.1,p.2 == -1 - b)
 | none=>([],false)
theorem Jf (m : Mem) (b : Int) : cQ m b=if (Hn m b).2=true then some (Hn m b).1 else none:=by
 unfold cQ Hn
 cases walked m b with
 | none=>rfl
 | some p=>simp only [beq_iff_eq]
theorem bB.nx {m : Mem} (h : bB m) (i : Nat) : (msl m i).next≤m.slots.length:=by
 rcases Nat.lt_or_ge i m.slots.length with hl | hg
 ·exact (h.sl hl).n0
 ·unfold msl
  rw [List.getD_eq_getElem?_getD,List.getElem?_eq_none hg]
  show (0 : Int)≤_
  omega
theorem bB.hd {m : Mem} (h : bB m) (b : Int) : aO m b≤m.slots.length:=by
 unfold aO
 rcases Nat.lt_or_ge b.toNat m.heads.length with hl | hg
 ·exact (h.head _ hl).n0
 ·rw [List.getD_eq_getElem?_getD,List.getElem?_eq_none hg]
  show (0 : Int)≤_
  omega
theorem wK {m : Mem} (hm : bB m) : ∀ (f : Nat) (n : Int) (l : List Int) (e : Int),n≤m.slots.length→walk m f n=some (l,e)→l.length < f∧∀ a∈l,0≤a∧a < m.slots.length
 | 0,_,_,_,_,h=>by cases h
 | f + 1,n,l,e,hn,h=>by
  by_cases h0 : n≤0
  ·rw [oP h0] at h
   cases h
   exact ⟨by simp,fun _ h=>by cases h⟩
  ·rw [oO h0] at h
   cases hw : walk m f (msl m (n - 1).toNat).next with
   | none=>rw [hw] at h;cases h
   | some p =>
    rw [hw] at h
    cases h
    obtain ⟨i1,i2⟩:=wK hm f _ p.1 p.2 (hm.nx _) hw
    refine ⟨by simp;omega,fun a ha=>?_⟩
    rcases List.mem_cons.1 ha with rfl | ha
    ·omega
    ·exact i2 a ha
theorem mG {m : Mem} {b : Int} {l : List Int} (h : cQ m b=some l) : walked m b=some (l,-1 - b):=by
 unfold cQ at h
 cases hw : walked m b with
 | none=>rw [hw] at h;cases h
 | some p =>
  rw [hw] at h
  dsimp only at h
  split at h
  ·rename_i he;cases h;rw [← he]
  ·cases h
theorem rm {m : Mem} (hm : bB m) {b : Int} {l : List Int} (h : cQ m b=some l) : l.length≤m.slots.length∧∀ a∈l,0≤a∧a < m.slots.length:=by
 have:=wK hm _ _ l _ (hm.hd b) (mG h)
 exact ⟨by omega,this.2⟩
def eY (m : Mem) (b : Int) (ks : List Key) (a : Int) : Int :=
 if (msl m a.toNat).refs=0∨(msl m a.toNat).inn=false then 5 else if (aY (msl m a.toNat).k m.heads.length).1≠b then 4 else if (msl m a.toNat).k∈ks then 6 else 0
def bQ (m : Mem) (b : Int) : List Int→List Key→Int × List Key
 | [],ks=>(0,ks)
 | a :: l,ks=>if eY m b ks a≠0 then (eY m b ks a,ks) else bQ m b l ((msl m a.toNat).k :: ks)
def dk (m : Mem) : Nat→Nat→List Key→Int
 | 0,_,_=>0
 | n + 1,b,ks=>match cQ m b with
  | none=>4
  | some l=>if (bQ m b l ks).1≠0 then (bQ m b l ks).1 else dk m n (b + 1) (bQ m b l ks).2
def bU (m : Mem) : Int:=if cP m≠0 then cP m else dk m m.heads.length 0 []
theorem tU {m : Mem} {b : Int} {l : List Int} {ks : List Key} {i : Nat} (h : i < l.length) : bQ m b (l.drop i) ks=if eY m b ks (l.getD i 0)≠0 then (eY m b ks (l.getD i 0),ks) else bQ m b (l.drop (i + 1)) ((msl m (l.getD i 0).toNat).k :: ks):=by
 rw [dL h];rfl
theorem mE {m : Mem} {n b : Nat} {ks : List Key} {l : List Int} (h : cQ m b=some l) : dk m (n + 1) b ks=if (bQ m b l ks).1≠0 then (bQ m b l ks).1 else dk m n (b + 1) (bQ m b l ks).2:=by
 simp only [dk,h]
theorem mF {m : Mem} {n b : Nat} {ks : List Key} (h : cQ m b=none) : dk m (n + 1) b ks=4:=by
 simp only [dk,h]
def Aw (L : List Key) : CD:=.l (L.map fun k=>[.i k.a,.i k.b,.b true])
theorem ou (a b : Int) : ∀ L : List Key,((CD.find (Aw L).rows [.i a,.i b] 2).getD []).getD 2 (.b false)=.b (decide ((⟨a,b⟩ : Key)∈L))
 | []=>rfl
 | x :: L=>by
  have ih:=ou a b L
  simp only [Aw,CD.ax,CD.find,List.map_cons,List.find?_cons,List.take_succ_cons,List.take_zero,kJ,CD.eqs,Bool.and_true] at ih ⊢
  cases h : ((x.a ==a) && (x.b ==b)) with
  | true =>
   simp only [Bool.and_eq_true,beq_iff_eq] at h
   have e : (⟨a,b⟩ : Key)=x:=by rw [← h.1,← h.2]
   simp [e]
  | false =>
   have hne : (⟨a,b⟩ : Key)≠x:=fun e=>by subst e;simp at h
   simp only [ih,List.mem_cons,hne,false_or]
def s168 : Sig:=⟨[.agg [.fz kS,.fz kI,.fz kI,.fz kI,.int .i64],.one (.int .i64)],[.one (.own 3 kI),.one (.int .i64)]⟩
def d168 : DC:=⟨s168,fun l=>bB (Mem.of l)∧0≤(l.getD 5 .u).int∧(l.getD 5 .u).int < (Mem.of l).heads.length,fun l=>[af (bP (Mem.of l) (l.getD 5 .u).int).1,.i (bP (Mem.of l) (l.getD 5 .u).int).2]⟩
theorem fn168 (m : Mem) (b : Int) : d168.fn [au m.slots,af m.heads,af m.free,af m.locks,.i m.now,.i b]=[af (bP m b).1,.i (bP m b).2]:=by simp only [d168,mem_of,aA,List.getD_cons_zero,List.getD_cons_succ,CD.aR]
theorem pre168 {m : Mem} {b : Int} (h : bB m) (h1 : 0≤b) (h2 : b < m.heads.length) : d168.pre [au m.slots,af m.heads,af m.free,af m.locks,.i m.now,.i b]:=by
 simp only [d168,mem_of,aA,List.getD_cons_zero,List.getD_cons_succ,CD.aR]
 exact ⟨h,h1,h2⟩
def l168 : List (Nat × Ct):=[]
def z168 : Cx:={ T:=ttA,C:=sigs l168,F:=[],hints:=[⟨168,3,false,[(7,.lt),(6,.own 3 kI)],[],[],[],0,0,false⟩],sig:=s168}
def t168 : Tree :=
 (.need (.le (.int 0) (.var 5))
 (.need (.lt (.var 5) (.len (.var 1)))
 (.loop 6 [.sl 8 [.int .i64],.int .i64] [.nil,.cell (.var 1) (.var 5) 0]
 (.ite (.lt (.int 0) (.var 8))
 (.ite (.eq (.len (.var 7)) (.len (.var 0)))
 (.ret [.nil,.int 4])
 (.need (.fit (.sub (.var 8) (.int 1)))
 (.need (.le (.add (.len (.var 7)) (.int 1)) (.int 17592186044416))
 (.need (.le (.int 0) (.sub (.var 8) (.int 1)))
 (.need (.lt (.sub (.var 8) (.int 1)) (.len (.var 0)))
 (.back 6 [.app (.var 7) (.cons (.sub (.var 8) (.int 1)) .row0),.cell (.var 0) (.sub (.var 8) (.int 1)) 5]))))))
 (.need (.fit (.sub (.int (-1)) (.var 5)))
 (.ite (.not (.eq (.var 8) (.sub (.int (-1)) (.var 5))))
 (.ret [.nil,.int 4])
 (.ret [.var 7,.int 0])))))))
theorem run168 : run z168 6000 [.code (Try.f168.body.getD .skip),.fin (bt z168 Try.f168.results.toList 50)] { fn:=168,tmps:=z168.sig.aM ++ List.replicate (Try.f168.ntmps - z168.sig.aM.length) (.v (.one .undef)),stk:=[],h:=z168.sig.h0,nx:=z168.sig.ins.length,known:=[]}=t168:=by kernel_rfl
theorem ok168 : cB Try.prog 168 d168.ct:=by
 refine aD (d:=d168) (Z:=z168) (Γ:=gam l168) (fn:=Try.f168) (c:=Try.f168.body.getD .skip) (bg tok mixed all_nil bh) Try.func168 (by kernel_rfl) (by kernel_rfl) rfl run168 fun E hk hp=>?_
 obtain ⟨hk0,hk1,hk2,hk3,hk4,hk5,_⟩:=hk
 obtain ⟨m,e0,e1,e2,e3,e4,b0,b1,b2,b3⟩:=cv (d0:=E 0) (d1:=E 1) (d2:=E 2) (d3:=E 3) (d4:=E 4) hk0 hk1 hk2 hk3 hk4
 obtain ⟨x,e5⟩:=ok_int (d:=E 5) hk5
 have el : aH E d168.sig.ins.length=[au m.slots,af m.heads,af m.free,af m.locks,.i m.now,.i x]:=by
  show [E 0,E 1,E 2,E 3,E 4,E 5]=_
  rw [e0,e1,e2,e3,e4,e5]
 rw [el] at hp
 rw [el]
 rw [Env.bJ el]
 clear el e0 e1 e2 e3 e4 e5
 rw [fn168]
 simp only [d168,mem_of,aA,List.getD_cons_zero,List.getD_cons_succ,CD.aR] at hp
 obtain ⟨hm,hx0,hx1⟩:=hp
 have hns:=hm.ns
 unfold t168
 refine ag (by simp only [nrm,xdn,reduceIte,Nat.reduceLT,Nat.reduceSub,Nat.reduceAdd];omega) (ag (by simp only [nrm,xdn,reduceIte,Nat.reduceLT,Nat.reduceSub,Nat.reduceAdd,aw];omega) ?_)
 refine bO (fun ds=>∃ (acc : List Int) (n : Int),ds=[af acc,.i n]∧acc.length≤m.slots.length∧n≤m.slots.length∧walked m x=(walk m (m.slots.length - acc.length + 1) n).map fun p=>(acc ++ p.1,p.2)) (fun ds=>m.slots.length - (ds.getD 0 .u).rows.length)
  ⟨[],aO m x,?_,by simp,hm.hd x,?_⟩ ?_
 ·simp only [nrm,xdn,reduceIte,Nat.reduceLT,Nat.reduceSub,Nat.reduceAdd,iK (show x.toNat < m.heads.length by omega)];rfl
 ·simp only [List.length_nil,Nat.sub_zero,List.nil_append]
  show walk m _ _=_
  cases walk m (m.slots.length + 1) (aO m x) <;> rfl
 rintro ds - ⟨acc,n,rfl,hl,hn,hw⟩
 refine G0 (fun h=>G0 (fun h'=>aj ?_) (fun h'=>?_)) (fun h=>G1 (by simp only [nrm,xdn,reduceIte,Nat.reduceLT,Nat.reduceSub,Nat.reduceAdd];omega) (G0 (fun h'=>aj ?_) (fun h'=>aj ?_)))
 ·simp only [nrm,xdn,reduceIte,Nat.reduceLT,Nat.reduceSub,Nat.reduceAdd,aw,aN] at h h'
  have e : m.slots.length - acc.length=0:=by omega
  rw [e,oO (by omega)] at hw
  have : bP m x=([],4):=by unfold bP cQ;rw [hw];rfl
  rw [this]
  simp only [nrm,xdn,reduceIte,Nat.reduceLT,Nat.reduceSub,Nat.reduceAdd];rfl
 ·simp only [nrm,xdn,reduceIte,Nat.reduceLT,Nat.reduceSub,Nat.reduceAdd,aw,aN] at h h'
  refine G1 (by simp only [nrm,xdn,reduceIte,Nat.reduceLT,Nat.reduceSub,Nat.reduceAdd];omega) (eh (by simp only [nrm,xdn,reduceIte,Nat.reduceLT,Nat.reduceSub,Nat.reduceAdd,aw];omega) (ag (by simp only [nrm,xdn,reduceIte,Nat.reduceLT,Nat.reduceSub,Nat.reduceAdd];omega) (ag (by simp only [nrm,xdn,reduceIte,Nat.reduceLT,Nat.reduceSub,Nat.reduceAdd,aN];omega) (aV ⟨⟨acc ++ [n - 1],(msl m (n - 1).toNat).next,?_,by simp;omega,hm.nx _,?_⟩,?_⟩))))
  ·simp only [nrm,xdn,reduceIte,Nat.reduceLT,Nat.reduceSub,Nat.reduceAdd,CD.row,List.headD_cons,gV,qa (show (n - 1).toNat < m.slots.length by omega)];rfl
  ·rw [hw,oO (by omega),show m.slots.length - acc.length=m.slots.length - (acc ++ [n - 1]).length + 1 from by simp;omega]
   cases walk m (m.slots.length - (acc ++ [n - 1]).length + 1) (msl m (n - 1).toNat).next with
   | none=>rfl
   | some p=>simp
  ·simp only [nrm,xdn,reduceIte,Nat.reduceLT,Nat.reduceSub,Nat.reduceAdd,CD.row,List.headD_cons,gV,aw,List.length_append];omega
 ·simp only [nrm,xdn,reduceIte,Nat.reduceLT,Nat.reduceSub,Nat.reduceAdd,Bool.not_eq_true'] at h h'
  rw [oP (by omega)] at hw
  have : bP m x=([],4):=by
   unfold bP cQ
   rw [hw]
   simp only [Option.map_some]
   rw [if_neg (by omega)]
  rw [this]
  simp only [nrm,xdn,reduceIte,Nat.reduceLT,Nat.reduceSub,Nat.reduceAdd];rfl
 ·simp only [nrm,xdn,reduceIte,Nat.reduceLT,Nat.reduceSub,Nat.reduceAdd,Bool.not_eq_false'] at h h'
  rw [oP (by omega)] at hw
  have : bP m x=(acc,0):=by
   unfold bP cQ
   rw [hw]
   simp only [Option.map_some,List.append_nil]
   rw [if_pos (by omega)]
  rw [this]
  simp only [nrm,xdn,reduceIte,Nat.reduceLT,Nat.reduceSub,Nat.reduceAdd]
def s77 : Sig:=⟨[.agg [.fz kS,.fz kI,.fz kI,.fz kI,.int .i64],.one (.int .i64)],[.one (.own 3 kI),.one (.bool)]⟩
def d77 : DC:=⟨s77,fun l=>bB (Mem.of l)∧0≤(l.getD 5 .u).int∧(l.getD 5 .u).int < (Mem.of l).heads.length,fun l=>[af (Hn (Mem.of l) (l.getD 5 .u).int).1,.b (Hn (Mem.of l) (l.getD 5 .u).int).2]⟩
theorem fn77 (m : Mem) (b : Int) : d77.fn [au m.slots,af m.heads,af m.free,af m.locks,.i m.now,.i b]=[af (Hn m b).1,.b (Hn m b).2]:=by simp only [d77,mem_of,aA,List.getD_cons_zero,List.getD_cons_succ,CD.aR]
theorem pre77 {m : Mem} {b : Int} (h : bB m) (h1 : 0≤b) (h2 : b < m.heads.length) : d77.pre [au m.slots,af m.heads,af m.free,af m.locks,.i m.now,.i b]:=by
 simp only [d77,mem_of,aA,List.getD_cons_zero,List.getD_cons_succ,CD.aR]
 exact ⟨h,h1,h2⟩
def l77 : List (Nat × Ct):=[]
def z77 : Cx:={ T:=ttA,C:=sigs l77,F:=[],hints:=[⟨77,4,false,[(17,.lt),(7,.lt),(6,.own 3 kI)],[],[],[],0,0,false⟩],sig:=s77}
def t77 : Tree :=
 (.need (.le (.int 0) (.var 5))
 (.need (.lt (.var 5) (.len (.var 1)))
 (.need (.fit (.add (.len (.var 0)) (.int 1)))
 (.loop 6 [.sl 8 [.int .i64],.int .i64,.int .i64] [.nil,.cell (.var 1) (.var 5) 0,.int 0]
 (.ite (.lt (.var 9) (.add (.len (.var 0)) (.int 1)))
 (.ite (.le (.var 8) (.int 0))
 (.need (.fit (.sub (.int 0) (.var 5)))
 (.need (.fit (.sub (.sub (.int 0) (.var 5)) (.int 1)))
 (.ret [.var 7,.eq (.var 8) (.sub (.sub (.int 0) (.var 5)) (.int 1))])))
 (.need (.fit (.sub (.var 8) (.int 1)))
 (.need (.le (.add (.len (.var 7)) (.int 1)) (.int 17592186044416))
 (.need (.le (.int 0) (.sub (.var 8) (.int 1)))
 (.need (.lt (.sub (.var 8) (.int 1)) (.len (.var 0)))
 (.need (.fit (.add (.var 9) (.int 1)))
 (.back 6 [.app (.var 7) (.cons (.sub (.var 8) (.int 1)) .row0),.cell (.var 0) (.sub (.var 8) (.int 1)) 5,.add (.var 9) (.int 1)])))))))
 (.ret [.nil,.bool false]))))))
theorem run77 : run z77 6000 [.code (Try.f77.body.getD .skip),.fin (bt z77 Try.f77.results.toList 50)] { fn:=77,tmps:=z77.sig.aM ++ List.replicate (Try.f77.ntmps - z77.sig.aM.length) (.v (.one .undef)),stk:=[],h:=z77.sig.h0,nx:=z77.sig.ins.length,known:=[]}=t77:=by kernel_rfl
theorem ok77 : cB Try.prog 77 d77.ct:=by
 refine aD (d:=d77) (Z:=z77) (Γ:=gam l77) (fn:=Try.f77) (c:=Try.f77.body.getD .skip) (bg tok mixed all_nil bh) Try.func77 (by kernel_rfl) (by kernel_rfl) rfl run77 fun E hk hp=>?_
 obtain ⟨hk0,hk1,hk2,hk3,hk4,hk5,_⟩:=hk
 obtain ⟨m,e0,e1,e2,e3,e4,b0,b1,b2,b3⟩:=cv (d0:=E 0) (d1:=E 1) (d2:=E 2) (d3:=E 3) (d4:=E 4) hk0 hk1 hk2 hk3 hk4
 obtain ⟨x,e5⟩:=ok_int (d:=E 5) hk5
 have el : aH E d77.sig.ins.length=[au m.slots,af m.heads,af m.free,af m.locks,.i m.now,.i x]:=by
  show [E 0,E 1,E 2,E 3,E 4,E 5]=_
  rw [e0,e1,e2,e3,e4,e5]
 rw [el] at hp
 rw [el]
 rw [Env.bJ el]
 clear el e0 e1 e2 e3 e4 e5
 rw [fn77]
 simp only [d77,mem_of,aA,List.getD_cons_zero,List.getD_cons_succ,CD.aR] at hp
 obtain ⟨hm,hx0,hx1⟩:=hp
 have hns:=hm.ns
 unfold t77
 refine ag (by simp only [nrm,xdn,reduceIte,Nat.reduceLT,Nat.reduceSub,Nat.reduceAdd];omega) (ag (by simp only [nrm,xdn,reduceIte,Nat.reduceLT,Nat.reduceSub,Nat.reduceAdd,aw];omega) (G1 (by simp only [nrm,xdn,reduceIte,Nat.reduceLT,Nat.reduceSub,Nat.reduceAdd,aN];omega) ?_))
 refine bO (fun ds=>∃ (acc : List Int) (n : Int),ds=[af acc,.i n,.i acc.length]∧acc.length≤m.slots.length + 1∧n≤m.slots.length∧walked m x=(walk m (m.slots.length + 1 - acc.length) n).map fun p=>(acc ++ p.1,p.2)) (fun ds=>m.slots.length + 1 - (ds.getD 0 .u).rows.length)
  ⟨[],aO m x,?_,by simp,hm.hd x,?_⟩ ?_
 ·simp only [nrm,xdn,reduceIte,Nat.reduceLT,Nat.reduceSub,Nat.reduceAdd,iK (show x.toNat < m.heads.length by omega)];rfl
 ·simp only [List.length_nil,Nat.sub_zero,List.nil_append]
  show walk m _ _=_
  cases walk m (m.slots.length + 1) (aO m x) <;> rfl
 rintro ds - ⟨acc,n,rfl,hl,hn,hw⟩
 refine G0 (fun h=>G0 (fun h'=>G1 (by simp only [nrm,xdn,reduceIte,Nat.reduceLT,Nat.reduceSub,Nat.reduceAdd];omega) (G1 (by simp only [nrm,xdn,reduceIte,Nat.reduceLT,Nat.reduceSub,Nat.reduceAdd];omega) (aj ?_))) (fun h'=>?_)) (fun h=>aj ?_)
 ·simp only [nrm,xdn,reduceIte,Nat.reduceLT,Nat.reduceSub,Nat.reduceAdd,aw,aN] at h h'
  rw [show m.slots.length + 1 - acc.length=m.slots.length - acc.length + 1 from by omega,oP (by omega)] at hw
  have : Hn m x=(acc,n == -1 - x):=by
   unfold Hn
   rw [hw]
   simp only [Option.map_some,List.append_nil]
  rw [this]
  simp only [nrm,xdn,reduceIte,Nat.reduceLT,Nat.reduceSub,Nat.reduceAdd]
  rw [show (0 : Int) - x - 1=-1 - x from by omega]
 ·simp only [nrm,xdn,reduceIte,Nat.reduceLT,Nat.reduceSub,Nat.reduceAdd,aw,aN] at h h'
  refine G1 (by simp only [nrm,xdn,reduceIte,Nat.reduceLT,Nat.reduceSub,Nat.reduceAdd];omega) (eh (by simp only [nrm,xdn,reduceIte,Nat.reduceLT,Nat.reduceSub,Nat.reduceAdd,aw];omega) (ag (by simp only [nrm,xdn,reduceIte,Nat.reduceLT,Nat.reduceSub,Nat.reduceAdd];omega) (ag (by simp only [nrm,xdn,reduceIte,Nat.reduceLT,Nat.reduceSub,Nat.reduceAdd,aN];omega) (G1 (by simp only [nrm,xdn,reduceIte,Nat.reduceLT,Nat.reduceSub,Nat.reduceAdd];omega) (aV ⟨⟨acc ++ [n - 1],(msl m (n - 1).toNat).next,?_,by simp;omega,hm.nx _,?_⟩,?_⟩)))))
  ·simp only [nrm,xdn,reduceIte,Nat.reduceLT,Nat.reduceSub,Nat.reduceAdd,CD.row,List.headD_cons,gV,qa (show (n - 1).toNat < m.slots.length by omega),List.length_append,Int.natCast_add];rfl
  ·rw [hw,show m.slots.length + 1 - acc.length=m.slots.length + 1 - (acc ++ [n - 1]).length + 1 from by simp;omega,oO (by omega)]
   cases walk m (m.slots.length + 1 - (acc ++ [n - 1]).length) (msl m (n - 1).toNat).next with
   | none=>rfl
   | some p=>simp
  ·simp only [nrm,xdn,reduceIte,Nat.reduceLT,Nat.reduceSub,Nat.reduceAdd,CD.row,List.headD_cons,gV,aw,List.length_append];omega
 ·simp only [nrm,xdn,reduceIte,Nat.reduceLT,Nat.reduceSub,Nat.reduceAdd,aw,aN] at h
  rw [show m.slots.length + 1 - acc.length=0 from by omega] at hw
  have : Hn m x=([],false):=by unfold Hn;rw [hw];rfl
  rw [this]
  simp only [nrm,xdn,reduceIte,Nat.reduceLT,Nat.reduceSub,Nat.reduceAdd];rfl
end Go.Proofs.Ytpmamacjepcdmaa

namespace Go.Proofs.Ytpmamacjepcdmaa
open Go Go.Sy Go.RowKit
set_option linter.unusedSimpArgs false
set_option linter.unusedVariables false
theorem fn97 (k : Key) (n : Int) : d97.fn [.i k.a,.i k.b,.i n]=[.i (aY k n).1,.i (aY k n).2]:=by
 simp only [d97,jK,eZ,List.getD_cons_succ,List.getD_cons_zero,CD.aR]
def s74 : Sig:=⟨[.agg [.fz kS,.fz kI,.fz kI,.fz kI,.int .i64]],[.one (.int .i64)]⟩
def d74 : DC:=⟨s74,fun _=>True,fun l=>[.i (bU (Mem.of l))]⟩
theorem fn74 (m : Mem) : d74.fn [au m.slots,af m.heads,af m.free,af m.locks,.i m.now]=[.i (bU m)]:=by simp only [d74,mem_of,aA]
def l74 : List (Nat × Ct):=[(51,d51.ct),(168,d168.ct),(97,d97.ct)]
def z74 : Cx:={ T:=ttA,C:=sigs l74,F:=[],hints:=[⟨74,6,false,[(22,.lt)],[],[],[0],0,0,false⟩,⟨74,12,false,[(36,.lt)],[],[],[0],0,0,false⟩],sig:=s74}
def t74 : Tree :=
 (.call 51 [.var 0,.var 1,.var 2,.var 3,.var 4] 5
 (.ite (.not (.eq (.var 5) (.int 0)))
 (.ret [.var 5])
 (.loop 6 [.int .i64,.sl 0 [.int .i64,.int .i64,.bool]] [.int 0,.nil]
 (.ite (.lt (.var 7) (.len (.var 1)))
 (.call 168 [.var 0,.var 1,.var 2,.var 3,.var 4,.var 7] 9
 (.ite (.not (.eq (.var 10) (.int 0)))
 (.ret [.var 10])
 (.loop 11 [.int .i64,.sl 0 [.int .i64,.int .i64,.bool]] [.int 0,.var 8]
 (.ite (.lt (.var 12) (.len (.var 9)))
 (.need (.le (.int 0) (.var 12))
 (.need (.le (.int 0) (.cell (.var 9) (.var 12) 0))
 (.need (.lt (.cell (.var 9) (.var 12) 0) (.len (.var 0)))
 (.ite (.eq (.cell (.var 0) (.cell (.var 9) (.var 12) 0) 0) (.int 0))
 (.ret [.int 5])
 (.ite (.not (.cell (.var 0) (.cell (.var 9) (.var 12) 0) 4))
 (.ret [.int 5])
 (.call 97 [.cell (.var 0) (.cell (.var 9) (.var 12) 0) 1,.cell (.var 0) (.cell (.var 9) (.var 12) 0) 2,.len (.var 1)] 14
 (.ite (.not (.eq (.var 14) (.var 7)))
 (.ret [.int 4])
 (.ite (.look (.var 13) (.cons (.cell (.var 0) (.cell (.var 9) (.var 12) 0) 1) (.cons (.cell (.var 0) (.cell (.var 9) (.var 12) 0) 2) .row0)) (.bool false) 2 2)
 (.ret [.int 6])
 (.need (.fit (.add (.var 12) (.int 1)))
 (.back 11 [.add (.var 12) (.int 1),.app (.cons (.cell (.var 0) (.cell (.var 9) (.var 12) 0) 1) (.cons (.cell (.var 0) (.cell (.var 9) (.var 12) 0) 2) (.cons (.bool true) .row0))) (.var 13)]))))))))))
 (.need (.fit (.add (.var 7) (.int 1)))
 (.back 6 [.add (.var 7) (.int 1),.var 13]))))))
 (.ret [.int 0])))))
theorem run74 : run z74 6000 [.code (Try.f74.body.getD .skip),.fin (bt z74 Try.f74.results.toList 50)] { fn:=74,tmps:=z74.sig.aM ++ List.replicate (Try.f74.ntmps - z74.sig.aM.length) (.v (.one .undef)),stk:=[],h:=z74.sig.h0,nx:=z74.sig.ins.length,known:=[]}=t74:=by kernel_rfl
theorem ok74 : cB Try.prog 74 d74.ct:=by
 refine aD (d:=d74) (Z:=z74) (Γ:=gam l74) (fn:=Try.f74) (c:=Try.f74.body.getD .skip) (bg tok mixed (all_cons ok51 (all_cons ok168 (all_cons ok97 all_nil))) bh) Try.func74 (by kernel_rfl) (by kernel_rfl) rfl run74 fun E hk hp=>?_
 obtain ⟨hk0,hk1,hk2,hk3,hk4,_⟩:=hk
 obtain ⟨m,e0,e1,e2,e3,e4,b0,b1,b2,b3⟩:=cv (d0:=E 0) (d1:=E 1) (d2:=E 2) (d3:=E 3) (d4:=E 4) hk0 hk1 hk2 hk3 hk4
 have el : aH E d74.sig.ins.length=[au m.slots,af m.heads,af m.free,af m.locks,.i m.now]:=by
  show [E 0,E 1,E 2,E 3,E 4]=_
  rw [e0,e1,e2,e3,e4]
 rw [el] at hp
 rw [el]
 rw [Env.bJ el]
 clear el e0 e1 e2 e3 e4
 rw [fn74]
 unfold bU
 unfold t74
 refine ai d51 [.i (cP m)] rfl trivial (by simp only [nrm,xdn,reduceIte,Nat.reduceLT,Nat.reduceSub,Nat.reduceAdd,d51,mem_of,aA]) (G0 (fun h=>aj ?_) (fun h=>?_))
 ·simp only [nrm,xdn,reduceIte,Nat.reduceLT,Nat.reduceSub,Nat.reduceAdd,Bool.not_eq_true'] at h ⊢
  rw [if_pos h]
 simp only [nrm,xdn,reduceIte,Nat.reduceLT,Nat.reduceSub,Nat.reduceAdd,Bool.not_eq_false'] at h
 rw [if_neg (by omega)]
 have hm:=(dT m).1 h
 have hns:=hm.ns
 have hnh:=hm.nh4
 have hnh1:=hm.nh1
 refine bO (fun ds=>∃ (b : Nat) (ks : List Key),ds=[.i b,Aw ks]∧b≤m.heads.length∧dk m m.heads.length 0 []=dk m (m.heads.length - b) b ks) (fun ds=>m.heads.length - (ds.getD 0 .u).int.toNat) ⟨0,[],rfl,by omega,rfl⟩ ?_
 rintro ds - ⟨b,ks,rfl,hb,ht⟩
 refine G0 (fun hlt=>?_) (fun hge=>aj ?_)
 ·simp only [nrm,xdn,reduceIte,Nat.reduceLT,Nat.reduceSub,Nat.reduceAdd,aw] at hlt
  have e1 : m.heads.length - b=m.heads.length - (b + 1) + 1:=by omega
  rw [e1] at ht
  refine ai d168 [af (bP m b).1,.i (bP m b).2] rfl ?_ (by simp only [nrm,xdn,reduceIte,Nat.reduceLT,Nat.reduceSub,Nat.reduceAdd,fn168]) ?_
  ·simp only [nrm,xdn,reduceIte,Nat.reduceLT,Nat.reduceSub,Nat.reduceAdd]
   exact pre168 hm (by omega) (by omega)
  cases hc : cQ m b with
  | none =>
   have hr : bP m b=([],4):=by unfold bP;rw [hc]
   rw [hr]
   refine Bf (by simp only [nrm,xdn,reduceIte,Nat.reduceLT,Nat.reduceSub,Nat.reduceAdd,Bool.not_eq_true'];decide) (aj ?_)
   simp only [nrm,xdn,reduceIte,Nat.reduceLT,Nat.reduceSub,Nat.reduceAdd]
   rw [ht,mF hc]
  | some l =>
   have hr : bP m b=(l,0):=by unfold bP;rw [hc]
   rw [hr]
   refine Fk (by simp only [nrm,xdn,reduceIte,Nat.reduceLT,Nat.reduceSub,Nat.reduceAdd,decide_true,Bool.not_true,beq_self_eq_true]) ?_
   obtain ⟨hl,hlm⟩:=rm hm hc
   rw [mE hc] at ht
   refine bO (fun ds=>∃ (j : Nat) (ks' : List Key),ds=[.i j,Aw ks']∧j≤l.length∧bQ m b l ks=bQ m b (l.drop j) ks') (fun ds=>l.length - (ds.getD 0 .u).int.toNat) ⟨0,ks,?_,by omega,rfl⟩ ?_
   ·simp only [nrm,xdn,reduceIte,Nat.reduceLT,Nat.reduceSub,Nat.reduceAdd];rfl
   rintro ds - ⟨j,ks',rfl,hj,hs⟩
   refine G0 (fun hlt'=>?_) (fun hge'=>?_)
   ·simp only [nrm,xdn,reduceIte,Nat.reduceLT,Nat.reduceSub,Nat.reduceAdd,aw] at hlt'
    have ha:=hlm (l.getD j 0) (pA (by omega))
    rw [tU (by omega)] at hs
    have bad : ∀ e : Int,e≠0→eY m b ks' (l.getD j 0)=e→[CD.i e]=[CD.i (dk m m.heads.length 0 [])]:=fun e he hx=>by
     rw [hx,if_pos he] at hs
     rw [ht,hs,if_pos he]
    generalize hag : l.getD j 0=a at *
    have hk1 : ((au m.slots).rows.getD a.toNat []).getD 1 .u=.i (msl m a.toNat).k.a:=qc (by omega)
    have hk2 : ((au m.slots).rows.getD a.toNat []).getD 2 .u=.i (msl m a.toNat).k.b:=qb (by omega)
    have hm0 : m.slots.getD a.toNat default=msl m a.toNat:=rfl
    refine ag (by simp only [nrm,xdn,reduceIte,Nat.reduceLT,Nat.reduceSub,Nat.reduceAdd];omega) (ag (by simp only [nrm,xdn,reduceIte,Nat.reduceLT,Nat.reduceSub,Nat.reduceAdd,Int.toNat_natCast,aG,hag];omega) (ag (by simp only [nrm,xdn,reduceIte,Nat.reduceLT,Nat.reduceSub,Nat.reduceAdd,Int.toNat_natCast,aG,hag,aN];omega) (G0 (fun c1=>aj ?_) (fun c1=>G0 (fun c2=>aj ?_) (fun c2=>?_)))))
    ·simp only [nrm,xdn,reduceIte,Nat.reduceLT,Nat.reduceSub,Nat.reduceAdd,Int.toNat_natCast,aG,hag,cX,hm0] at c1 ⊢
     exact bad 5 (by decide) (by unfold eY;rw [if_pos (.inl c1)])
    ·simp only [nrm,xdn,reduceIte,Nat.reduceLT,Nat.reduceSub,Nat.reduceAdd,Int.toNat_natCast,aG,hag,cx,hm0,Bool.not_eq_true'] at c2 ⊢
     exact bad 5 (by decide) (by unfold eY;rw [if_pos (.inr c2)])
    simp only [nrm,xdn,reduceIte,Nat.reduceLT,Nat.reduceSub,Nat.reduceAdd,Int.toNat_natCast,aG,hag,cX,cx,hm0,Bool.not_eq_false'] at c1 c2
    have hno : ¬ ((msl m a.toNat).refs=0∨(msl m a.toNat).inn=false):=by
     rintro (h | h)
     ·exact c1 h
     ·rw [h] at c2;cases c2
    refine ai d97 [.i (aY (msl m a.toNat).k m.heads.length).1,.i (aY (msl m a.toNat).k m.heads.length).2] rfl trivial (by simp only [nrm,xdn,reduceIte,Nat.reduceLT,Nat.reduceSub,Nat.reduceAdd,Int.toNat_natCast,aG,hag,hk1,hk2,aw,fn97]) (G0 (fun c3=>aj ?_) (fun c3=>G0 (fun c4=>aj ?_) (fun c4=>?_)))
    ·simp only [nrm,xdn,reduceIte,Nat.reduceLT,Nat.reduceSub,Nat.reduceAdd,Int.toNat_natCast,Bool.not_eq_true'] at c3 ⊢
     exact bad 4 (by decide) (by unfold eY;rw [if_neg hno,if_pos c3])
    ·simp only [nrm,xdn,reduceIte,Nat.reduceLT,Nat.reduceSub,Nat.reduceAdd,Int.toNat_natCast,aG,hag,hk1,hk2,CD.row,List.headD_cons,ou,eZ,Bool.not_eq_false'] at c3 c4 ⊢
     exact bad 6 (by decide) (by unfold eY;rw [if_neg hno,if_neg (by omega),if_pos c4])
    simp only [nrm,xdn,reduceIte,Nat.reduceLT,Nat.reduceSub,Nat.reduceAdd,Int.toNat_natCast,aG,hag,hk1,hk2,CD.row,List.headD_cons,ou,eZ,Bool.not_eq_false'] at c3 c4
    have hlk : eY m b ks' a=0:=by unfold eY;rw [if_neg hno,if_neg (by omega),if_neg c4]
    rw [if_neg (by omega)] at hs
    refine G1 (by simp only [nrm,xdn,reduceIte,Nat.reduceLT,Nat.reduceSub,Nat.reduceAdd];omega) (aV ⟨⟨j + 1,(msl m a.toNat).k :: ks',?_,by omega,hs⟩,?_⟩)
    ·simp only [nrm,xdn,reduceIte,Nat.reduceLT,Nat.reduceSub,Nat.reduceAdd,Int.toNat_natCast,aG,hag,hk1,hk2,CD.row,List.headD_cons]
     rfl
    ·simp only [nrm,xdn,reduceIte,Nat.reduceLT,Nat.reduceSub,Nat.reduceAdd];omega
   ·simp only [nrm,xdn,reduceIte,Nat.reduceLT,Nat.reduceSub,Nat.reduceAdd,aw] at hge'
    have hs' : bQ m b l ks=(0,ks'):=by rw [hs,List.drop_of_length_le (by omega)];rfl
    rw [hs'] at ht
    refine G1 (by simp only [nrm,xdn,reduceIte,Nat.reduceLT,Nat.reduceSub,Nat.reduceAdd];omega) (fj (by decide) ⟨⟨b + 1,ks',?_,by omega,?_⟩,?_⟩)
    ·simp only [nrm,xdn,reduceIte,Nat.reduceLT,Nat.reduceSub,Nat.reduceAdd];rfl
    ·rw [ht];rfl
    ·simp only [nrm,xdn,reduceIte,Nat.reduceLT,Nat.reduceSub,Nat.reduceAdd];omega
 ·simp only [nrm,xdn,reduceIte,Nat.reduceLT,Nat.reduceSub,Nat.reduceAdd,aw] at hge
  rw [ht,show m.heads.length - b=0 from by omega]
  rfl
def slotsOf (m : Mem) (b : Int) : List Int × Int:=if cP m≠0 then ([],cP m) else if b < 0∨m.heads.length≤b then ([],5) else bP m b
def s72 : Sig:=⟨[.agg [.fz kS,.fz kI,.fz kI,.fz kI,.int .i64]],[.one (.int .i64)]⟩
def d72 : DC:=⟨s72,fun _=>True,fun l=>[.i (bU (Mem.of l))]⟩
theorem fn72 (m : Mem) : d72.fn [au m.slots,af m.heads,af m.free,af m.locks,.i m.now]=[.i (bU m)]:=by simp only [d72,mem_of,aA]
def l72 : List (Nat × Ct):=[(58,d58.ct),(77,d77.ct),(88,d88.ct),(169,d169.ct)]
def z72 : Cx:={ T:=ttA,C:=sigs l72,F:=[],hints:=[⟨72,6,false,[(19,.lt),(4,.own 31 kK)],[],[],[],0,0,false⟩,⟨72,12,false,[(32,.lt),(4,.own 31 kK)],[],[],[],0,0,false⟩],sig:=s72}
def t72 : Tree :=
 (.call 58 [.var 0,.var 1,.var 2,.var 3,.var 4] 5
 (.ite (.not (.eq (.var 5) (.int 0)))
 (.ret [.var 5])
 (.loop 6 [.sl 16 [.int .i64,.int .i64],.int .i64] [.nil,.int 0]
 (.ite (.lt (.var 8) (.len (.var 1)))
 (.call 77 [.var 0,.var 1,.var 2,.var 3,.var 4,.var 8] 9
 (.ite (.not (.var 10))
 (.ret [.int 4])
 (.loop 11 [.sl 16 [.int .i64,.int .i64],.int .i64] [.var 7,.int 0]
 (.ite (.lt (.var 13) (.len (.var 9)))
 (.need (.le (.int 0) (.var 13))
 (.need (.le (.int 0) (.cell (.var 9) (.var 13) 0))
 (.need (.lt (.cell (.var 9) (.var 13) 0) (.len (.var 0)))
 (.ite (.eq (.cell (.var 0) (.cell (.var 9) (.var 13) 0) 0) (.int 0))
 (.ret [.int 5])
 (.ite (.not (.cell (.var 0) (.cell (.var 9) (.var 13) 0) 4))
 (.ret [.int 5])
 (.call 88 [.cell (.var 0) (.cell (.var 9) (.var 13) 0) 1,.cell (.var 0) (.cell (.var 9) (.var 13) 0) 2,.len (.var 1)] 14
 (.ite (.not (.eq (.var 14) (.var 8)))
 (.ret [.int 4])
 (.call 169 [.var 12,.cell (.var 0) (.cell (.var 9) (.var 13) 0) 1,.cell (.var 0) (.cell (.var 9) (.var 13) 0) 2] 15
 (.ite (.var 15)
 (.ret [.int 6])
 (.need (.le (.add (.len (.var 12)) (.int 1)) (.int 8796093022208))
 (.need (.fit (.add (.var 13) (.int 1)))
 (.back 11 [.app (.var 12) (.cons (.cell (.var 0) (.cell (.var 9) (.var 13) 0) 1) (.cons (.cell (.var 0) (.cell (.var 9) (.var 13) 0) 2) .row0)),.add (.var 13) (.int 1)]))))))))))))
 (.need (.fit (.add (.var 8) (.int 1)))
 (.back 6 [.var 12,.add (.var 8) (.int 1)]))))))
 (.ret [.int 0])))))
theorem run72 : run z72 6000 [.code (Try.f72.body.getD .skip),.fin (bt z72 Try.f72.results.toList 50)] { fn:=72,tmps:=z72.sig.aM ++ List.replicate (Try.f72.ntmps - z72.sig.aM.length) (.v (.one .undef)),stk:=[],h:=z72.sig.h0,nx:=z72.sig.ins.length,known:=[]}=t72:=by kernel_rfl
theorem ok72 : cB Try.prog 72 d72.ct:=by
 refine aD (d:=d72) (Z:=z72) (Γ:=gam l72) (fn:=Try.f72) (c:=Try.f72.body.getD .skip) (bg tok mixed (all_cons ok58 (all_cons ok77 (all_cons ok88 (all_cons ok169 all_nil)))) bh) Try.func72 (by kernel_rfl) (by kernel_rfl) rfl run72 fun E hk hp=>?_
 obtain ⟨hk0,hk1,hk2,hk3,hk4,_⟩:=hk
 obtain ⟨m,e0,e1,e2,e3,e4,b0,b1,b2,b3⟩:=cv (d0:=E 0) (d1:=E 1) (d2:=E 2) (d3:=E 3) (d4:=E 4) hk0 hk1 hk2 hk3 hk4
 have el : aH E d72.sig.ins.length=[au m.slots,af m.heads,af m.free,af m.locks,.i m.now]:=by
  show [E 0,E 1,E 2,E 3,E 4]=_
  rw [e0,e1,e2,e3,e4]
 rw [el] at hp
 rw [el]
 rw [Env.bJ el]
 clear el e0 e1 e2 e3 e4
 rw [fn72]
 unfold bU
 unfold t72
 refine ai d58 [.i (cP m)] rfl trivial (by simp only [nrm,xdn,reduceIte,Nat.reduceLT,Nat.reduceSub,Nat.reduceAdd,fn58]) (G0 (fun h=>aj ?_) (fun h=>?_))
 ·simp only [nrm,xdn,reduceIte,Nat.reduceLT,Nat.reduceSub,Nat.reduceAdd,Bool.not_eq_true'] at h ⊢
  rw [if_pos h]
 simp only [nrm,xdn,reduceIte,Nat.reduceLT,Nat.reduceSub,Nat.reduceAdd,Bool.not_eq_false'] at h
 rw [if_neg (by omega)]
 have hm:=(dT m).1 h
 have hns:=hm.ns
 have hnh:=hm.nh4
 have hnh1:=hm.nh1
 refine bO (fun ds=>∃ (b : Nat) (ks : List Key),ds=[bS ks.reverse,.i b]∧b≤m.heads.length∧ks.length≤b * 12∧dk m m.heads.length 0 []=dk m (m.heads.length - b) b ks) (fun ds=>m.heads.length - (ds.getD 1 .u).int.toNat) ⟨0,[],rfl,by omega,by simp,rfl⟩ ?_
 rintro ds - ⟨b,ks,rfl,hb,hkl,ht⟩
 refine G0 (fun hlt=>?_) (fun hge=>aj ?_)
 ·simp only [nrm,xdn,reduceIte,Nat.reduceLT,Nat.reduceSub,Nat.reduceAdd,aw] at hlt
  have e1 : m.heads.length - b=m.heads.length - (b + 1) + 1:=by omega
  rw [e1] at ht
  refine ai d77 [af (Hn m b).1,.b (Hn m b).2] rfl ?_ (by simp only [nrm,xdn,reduceIte,Nat.reduceLT,Nat.reduceSub,Nat.reduceAdd,fn77]) ?_
  ·simp only [nrm,xdn,reduceIte,Nat.reduceLT,Nat.reduceSub,Nat.reduceAdd]
   exact pre77 hm (by omega) (by omega)
  have hq:=Jf m b
  cases hc : (Hn m b).2 with
  | false =>
   rw [hc] at hq
   refine Bf (by simp only [nrm,xdn,reduceIte,Nat.reduceLT,Nat.reduceSub,Nat.reduceAdd,Bool.not_false]) (aj ?_)
   simp only [nrm,xdn,reduceIte,Nat.reduceLT,Nat.reduceSub,Nat.reduceAdd]
   rw [ht,mF hq]
  | true =>
   rw [hc,if_pos rfl] at hq
   refine Fk (by simp only [nrm,xdn,reduceIte,Nat.reduceLT,Nat.reduceSub,Nat.reduceAdd,Bool.not_true]) ?_
   generalize (Hn m b).1=l at *
   obtain ⟨hl,hlm⟩:=rm hm hq
   rw [mE hq] at ht
   refine bO (fun ds=>∃ (j : Nat) (ks' : List Key),ds=[bS ks'.reverse,.i j]∧j≤l.length∧ks'.length=ks.length + j∧bQ m b l ks=bQ m b (l.drop j) ks') (fun ds=>l.length - (ds.getD 1 .u).int.toNat) ⟨0,ks,?_,by omega,rfl,rfl⟩ ?_
   ·simp only [nrm,xdn,reduceIte,Nat.reduceLT,Nat.reduceSub,Nat.reduceAdd];rfl
   rintro ds - ⟨j,ks',rfl,hj,hkl',hs⟩
   refine G0 (fun hlt'=>?_) (fun hge'=>?_)
   ·simp only [nrm,xdn,reduceIte,Nat.reduceLT,Nat.reduceSub,Nat.reduceAdd,aw] at hlt'
    have ha:=hlm (l.getD j 0) (pA (by omega))
    rw [tU (by omega)] at hs
    have bad : ∀ e : Int,e≠0→eY m b ks' (l.getD j 0)=e→[CD.i e]=[CD.i (dk m m.heads.length 0 [])]:=fun e he hx=>by
     rw [hx,if_pos he] at hs
     rw [ht,hs,if_pos he]
    generalize hag : l.getD j 0=a at *
    have hk1 : ((au m.slots).rows.getD a.toNat []).getD 1 .u=.i (msl m a.toNat).k.a:=qc (by omega)
    have hk2 : ((au m.slots).rows.getD a.toNat []).getD 2 .u=.i (msl m a.toNat).k.b:=qb (by omega)
    have hm0 : m.slots.getD a.toNat default=msl m a.toNat:=rfl
    have hok:=(hm.sl (i:=a.toNat) (by omega)).k
    refine ag (by simp only [nrm,xdn,reduceIte,Nat.reduceLT,Nat.reduceSub,Nat.reduceAdd];omega) (ag (by simp only [nrm,xdn,reduceIte,Nat.reduceLT,Nat.reduceSub,Nat.reduceAdd,Int.toNat_natCast,aG,hag];omega) (ag (by simp only [nrm,xdn,reduceIte,Nat.reduceLT,Nat.reduceSub,Nat.reduceAdd,Int.toNat_natCast,aG,hag,aN];omega) (G0 (fun c1=>aj ?_) (fun c1=>G0 (fun c2=>aj ?_) (fun c2=>?_)))))
    ·simp only [nrm,xdn,reduceIte,Nat.reduceLT,Nat.reduceSub,Nat.reduceAdd,Int.toNat_natCast,aG,hag,cX,hm0] at c1 ⊢
     exact bad 5 (by decide) (by unfold eY;rw [if_pos (.inl c1)])
    ·simp only [nrm,xdn,reduceIte,Nat.reduceLT,Nat.reduceSub,Nat.reduceAdd,Int.toNat_natCast,aG,hag,cx,hm0,Bool.not_eq_true'] at c2 ⊢
     exact bad 5 (by decide) (by unfold eY;rw [if_pos (.inr c2)])
    simp only [nrm,xdn,reduceIte,Nat.reduceLT,Nat.reduceSub,Nat.reduceAdd,Int.toNat_natCast,aG,hag,cX,cx,hm0,Bool.not_eq_false'] at c1 c2
    have hno : ¬ ((msl m a.toNat).refs=0∨(msl m a.toNat).inn=false):=by
     rintro (h | h)
     ·exact c1 h
     ·rw [h] at c2;cases c2
    refine ai d88 [.i (aY (msl m a.toNat).k m.heads.length).1] rfl ?_ (by simp only [nrm,xdn,reduceIte,Nat.reduceLT,Nat.reduceSub,Nat.reduceAdd,Int.toNat_natCast,aG,hag,hk1,hk2,aw,fn88]) (G0 (fun c3=>aj ?_) (fun c3=>?_))
    ·simp only [nrm,xdn,reduceIte,Nat.reduceLT,Nat.reduceSub,Nat.reduceAdd,Int.toNat_natCast,aG,hag,hk1,hk2,aw]
     have hh : d88.pre [.i (msl m a.toNat).k.a,.i (msl m a.toNat).k.b,.i m.heads.length]:=⟨hok,(by show (1 : Int)≤(m.heads.length : Int);omega),(by show (m.heads.length : Int)≤4;omega)⟩
     exact hh
    ·simp only [nrm,xdn,reduceIte,Nat.reduceLT,Nat.reduceSub,Nat.reduceAdd,Int.toNat_natCast,Bool.not_eq_true'] at c3 ⊢
     exact bad 4 (by decide) (by unfold eY;rw [if_neg hno,if_pos c3])
    simp only [nrm,xdn,reduceIte,Nat.reduceLT,Nat.reduceSub,Nat.reduceAdd,Int.toNat_natCast,Bool.not_eq_false'] at c3
    have hmem : ((msl m a.toNat).k∈ks'.reverse)↔((msl m a.toNat).k∈ks'):=List.mem_reverse
    refine ai d169 [.b (decide ((msl m a.toNat).k∈ks'.reverse))] rfl trivial (by simp only [nrm,xdn,reduceIte,Nat.reduceLT,Nat.reduceSub,Nat.reduceAdd,Int.toNat_natCast,aG,hag,hk1,hk2,d169,jf,jK,eZ,List.drop_succ_cons,List.drop_zero]) (G0 (fun c4=>aj ?_) (fun c4=>?_))
    ·simp only [nrm,xdn,reduceIte,Nat.reduceLT,Nat.reduceSub,Nat.reduceAdd,hmem] at c4 ⊢
     exact bad 6 (by decide) (by unfold eY;rw [if_neg hno,if_neg (by omega),if_pos c4])
    simp only [nrm,xdn,reduceIte,Nat.reduceLT,Nat.reduceSub,Nat.reduceAdd,hmem] at c4
    have hlk : eY m b ks' a=0:=by unfold eY;rw [if_neg hno,if_neg (by omega),if_neg c4]
    rw [if_neg (by omega)] at hs
    refine eh (by simp only [nrm,xdn,reduceIte,Nat.reduceLT,Nat.reduceSub,Nat.reduceAdd,bX,List.length_reverse];omega) (G1 (by simp only [nrm,xdn,reduceIte,Nat.reduceLT,Nat.reduceSub,Nat.reduceAdd];omega) (aV ⟨⟨j + 1,(msl m a.toNat).k :: ks',?_,by omega,by simp;omega,hs⟩,?_⟩))
    ·simp only [nrm,xdn,reduceIte,Nat.reduceLT,Nat.reduceSub,Nat.reduceAdd,Int.toNat_natCast,aG,hag,hk1,hk2,CD.row,List.headD_cons,cR,eZ,List.reverse_cons]
     rfl
    ·simp only [nrm,xdn,reduceIte,Nat.reduceLT,Nat.reduceSub,Nat.reduceAdd];omega
   ·simp only [nrm,xdn,reduceIte,Nat.reduceLT,Nat.reduceSub,Nat.reduceAdd,aw] at hge'
    have hs' : bQ m b l ks=(0,ks'):=by rw [hs,List.drop_of_length_le (by omega)];rfl
    rw [hs'] at ht
    refine G1 (by simp only [nrm,xdn,reduceIte,Nat.reduceLT,Nat.reduceSub,Nat.reduceAdd];omega) (fj (by decide) ⟨⟨b + 1,ks',?_,by omega,by omega,?_⟩,?_⟩)
    ·simp only [nrm,xdn,reduceIte,Nat.reduceLT,Nat.reduceSub,Nat.reduceAdd];rfl
    ·rw [ht];rfl
    ·simp only [nrm,xdn,reduceIte,Nat.reduceLT,Nat.reduceSub,Nat.reduceAdd];omega
 ·simp only [nrm,xdn,reduceIte,Nat.reduceLT,Nat.reduceSub,Nat.reduceAdd,aw] at hge
  rw [ht,show m.heads.length - b=0 from by omega]
  rfl
end Go.Proofs.Ytpmamacjepcdmaa
