import Derived.Test.YtpmamacjepcdmaaCRef2
namespace Go.Proofs.Ytpmamacjepcdmaa
open Go Go.Sy Go.RowKit
set_option linter.unusedSimpArgs false
set_option linter.unusedVariables false
def s66 : Sig:=⟨[.ptr [.own 52 kS,.own 3 kI,.own 3 kI,.own 3 kI,.int .i64],.agg [.int .i64,.int .i64],.one (.int .i64)],[.one (.int .i64),.one (.bool)]⟩
def d66 : DC:=⟨s66,fun l=>(Mem.of l).free.length≤1000∧((Mem.of l).free.length=0∨(0≤bc (Mem.of l)∧bc (Mem.of l) < (Mem.of l).slots.length)),fun l=>(take (Mem.of l) (Key.of (l.drop 5)) (l.getD 7 .u).int).1.cds ++ [.i (take (Mem.of l) (Key.of (l.drop 5)) (l.getD 7 .u).int).2.1,.b (decide ((take (Mem.of l) (Key.of (l.drop 5)) (l.getD 7 .u).int).2.2=0))]⟩
theorem fn66 (m : Mem) (k : Key) (x : Int) : d66.fn [au m.slots,af m.heads,af m.free,af m.locks,.i m.now,.i k.a,.i k.b,.i x]=(take m k x).1.cds ++ [.i (take m k x).2.1,.b (decide ((take m k x).2.2=0))]:=by simp only [d66,mem_of,aA,List.drop_succ_cons,List.drop_zero,jK,eZ,List.getD_cons_zero,List.getD_cons_succ,CD.aR]
def l66 : List (Nat × Ct):=[]
def z66 : Cx:={ T:=ttA,C:=sigs l66,F:=[],hints:=[],sig:=s66}
def t66 : Tree :=
 (.ite (.eq (.len (.var 2)) (.int 0))
 (.ret [.var 0,.var 1,.var 2,.var 3,.var 4,.int 0,.bool false])
 (.need (.fit (.sub (.len (.var 2)) (.int 1)))
 (.need (.le (.int 0) (.sub (.len (.var 2)) (.int 1)))
 (.need (.lt (.sub (.len (.var 2)) (.int 1)) (.len (.var 2)))
 (.need (.le (.sub (.len (.var 2)) (.int 1)) (.len (.var 2)))
 (.need (.le (.len (.take (.sub (.len (.var 2)) (.int 1)) (.var 2))) (.int 17592186044416))
 (.need (.le (.int 0) (.cell (.var 2) (.sub (.len (.var 2)) (.int 1)) 0))
 (.need (.lt (.cell (.var 2) (.sub (.len (.var 2)) (.int 1)) 0) (.len (.var 0)))
 (.ret [.set (.set (.set (.set (.set (.set (.var 0) (.cell (.var 2) (.sub (.len (.var 2)) (.int 1)) 0) 0 (.int 1)) (.cell (.var 2) (.sub (.len (.var 2)) (.int 1)) 0) 1 (.var 5)) (.cell (.var 2) (.sub (.len (.var 2)) (.int 1)) 0) 2 (.var 6)) (.cell (.var 2) (.sub (.len (.var 2)) (.int 1)) 0) 3 (.var 7)) (.cell (.var 2) (.sub (.len (.var 2)) (.int 1)) 0) 4 (.bool false)) (.cell (.var 2) (.sub (.len (.var 2)) (.int 1)) 0) 5 (.cell (.var 0) (.cell (.var 2) (.sub (.len (.var 2)) (.int 1)) 0) 5),.var 1,.app .nil (.take (.sub (.len (.var 2)) (.int 1)) (.var 2)),.var 3,.var 4,.cell (.var 2) (.sub (.len (.var 2)) (.int 1)) 0,.bool true])))))))))
theorem run66 : run z66 6000 [.code (Try.f66.body.getD .skip),.fin (bt z66 Try.f66.results.toList 50)] { fn:=66,tmps:=z66.sig.aM ++ List.replicate (Try.f66.ntmps - z66.sig.aM.length) (.v (.one .undef)),stk:=[],h:=z66.sig.h0,nx:=z66.sig.ins.length,known:=[]}=t66:=by kernel_rfl
theorem ok66 : cB Try.prog 66 d66.ct:=by
 refine aD (d:=d66) (Z:=z66) (Γ:=gam l66) (fn:=Try.f66) (c:=Try.f66.body.getD .skip) (bg tok mixed all_nil bh) Try.func66 (by kernel_rfl) (by kernel_rfl) rfl run66 fun E hk hp=>?_
 obtain ⟨hk0,hk1,hk2,hk3,hk4,hk5,hk6,hk7,_⟩:=hk
 obtain ⟨m,e0,e1,e2,e3,e4,b0,b1,b2,b3⟩:=cv (d0:=E 0) (d1:=E 1) (d2:=E 2) (d3:=E 3) (d4:=E 4) hk0 hk1 hk2 hk3 hk4
 obtain ⟨k,e5,e6⟩:=vM (d0:=E 5) (d1:=E 6) hk5 hk6
 obtain ⟨x,e7⟩:=ok_int (d:=E 7) hk7
 have el : aH E d66.sig.ins.length=[au m.slots,af m.heads,af m.free,af m.locks,.i m.now,.i k.a,.i k.b,.i x]:=by
  show [E 0,E 1,E 2,E 3,E 4,E 5,E 6,E 7]=_
  rw [e0,e1,e2,e3,e4,e5,e6,e7]
 rw [el] at hp
 rw [el]
 rw [Env.bJ el]
 clear el e0 e1 e2 e3 e4 e5 e6 e7
 simp only [d66,mem_of,aA] at hp
 obtain ⟨hf,hp⟩:=hp
 rw [fn66]
 unfold t66
 refine G0 (fun h=>aj ?_) (fun h=>?_)
 ·simp only [nrm,xdn,reduceIte,Nat.reduceLT,Nat.reduceSub,Nat.reduceAdd,aw] at h
  have ht : take m k x=(m,0,7):=by unfold take;rw [if_pos (by omega)]
  rw [ht]
  simp only [nrm,xdn,reduceIte,Nat.reduceLT,Nat.reduceSub,Nat.reduceAdd,Mem.cds];rfl
 simp only [nrm,xdn,reduceIte,Nat.reduceLT,Nat.reduceSub,Nat.reduceAdd,aw] at h
 have ht : take m k x=({ m with slots:=m.slots.modify (bc m).toNat (cp k x),free:=m.free.take (m.free.length - 1)},bc m,0):=by unfold take;rw [if_neg (by omega)]
 rw [ht]
 have e : ((m.free.length : Int) - 1).toNat=m.free.length - 1:=by omega
 have e2 : m.free.getD (m.free.length - 1) 0=bc m:=rfl
 have e3 : ((af m.free).rows.getD (m.free.length - 1) []).getD 0 .u=.i (bc m):=iK (by omega)
 have e4 : ((au m.slots).rows.getD (bc m).toNat []).getD 5 .u=.i (msl m (bc m).toNat).next:=qa (by omega)
 have e5 : (((af m.free).rows.take (m.free.length - 1)).length : Int)=(m.free.length : Int) - 1:=by simp [af];omega
 refine G1 (by simp only [nrm,xdn,reduceIte,Nat.reduceLT,Nat.reduceSub,Nat.reduceAdd,aw];omega) (ag (by simp only [nrm,xdn,reduceIte,Nat.reduceLT,Nat.reduceSub,Nat.reduceAdd,aw];omega) (ag (by simp only [nrm,xdn,reduceIte,Nat.reduceLT,Nat.reduceSub,Nat.reduceAdd,aw];omega) (ag (by simp only [nrm,xdn,reduceIte,Nat.reduceLT,Nat.reduceSub,Nat.reduceAdd,aw];omega) (eh (by simp only [nrm,xdn,reduceIte,Nat.reduceLT,Nat.reduceSub,Nat.reduceAdd,aw,e,e5];omega) (ag (by simp only [nrm,xdn,reduceIte,Nat.reduceLT,Nat.reduceSub,Nat.reduceAdd,aw,e,aG,e2];omega) (ag (by simp only [nrm,xdn,reduceIte,Nat.reduceLT,Nat.reduceSub,Nat.reduceAdd,aw,e,aG,e2,aN];omega) (aj ?_)))))))
 simp only [nrm,xdn,reduceIte,Nat.reduceLT,Nat.reduceSub,Nat.reduceAdd,aw,e,aG,e2,e3,e4,vI,FM,FL,FK,CW,CV,aC,By,Dj,Mem.cds,lca,decide_true]
 rw [Hw (fun s : bp=>(⟨1,⟨k.a,k.b⟩,x,false,(msl m (bc m).toNat).next⟩ : bp)) (cp k x) m.slots (bc m).toNat rfl]
 rfl
def s67 : Sig:=⟨[.ptr [.own 52 kS,.own 3 kI,.own 3 kI,.own 3 kI,.int .i64],.one (.int .i64)],[.one (.bool)]⟩
def d67 : DC:=⟨s67,fun l=>0≤(l.getD 5 .u).int∧(l.getD 5 .u).int < (Mem.of l).slots.length∧0≤(msl (Mem.of l) (l.getD 5 .u).int.toNat).refs∧(msl (Mem.of l) (l.getD 5 .u).int.toNat).refs≤1000,fun l=>(hold (Mem.of l) (l.getD 5 .u).int).1.cds ++ [.b (hold (Mem.of l) (l.getD 5 .u).int).2]⟩
theorem fn67 (m : Mem) (x : Int) : d67.fn [au m.slots,af m.heads,af m.free,af m.locks,.i m.now,.i x]=(hold m x).1.cds ++ [.b (hold m x).2]:=by simp only [d67,mem_of,aA,List.getD_cons_zero,List.getD_cons_succ,CD.aR]
def l67 : List (Nat × Ct):=[]
def z67 : Cx:={ T:=ttA,C:=sigs l67,F:=[],hints:=[],sig:=s67}
def t67 : Tree :=
 (.need (.le (.int 0) (.var 5))
 (.need (.lt (.var 5) (.len (.var 0)))
 (.ite (.lt (.int 0) (.cell (.var 0) (.var 5) 0))
 (.ite (.lt (.cell (.var 0) (.var 5) 0) (.int 1000))
 (.need (.fit (.add (.cell (.var 0) (.var 5) 0) (.int 1)))
 (.ret [.set (.var 0) (.var 5) 0 (.add (.cell (.var 0) (.var 5) 0) (.int 1)),.var 1,.var 2,.var 3,.var 4,.bool true]))
 (.ret [.var 0,.var 1,.var 2,.var 3,.var 4,.bool false]))
 (.ret [.var 0,.var 1,.var 2,.var 3,.var 4,.bool false]))))
theorem run67 : run z67 6000 [.code (Try.f67.body.getD .skip),.fin (bt z67 Try.f67.results.toList 50)] { fn:=67,tmps:=z67.sig.aM ++ List.replicate (Try.f67.ntmps - z67.sig.aM.length) (.v (.one .undef)),stk:=[],h:=z67.sig.h0,nx:=z67.sig.ins.length,known:=[]}=t67:=by kernel_rfl
theorem ok67 : cB Try.prog 67 d67.ct:=by
 refine aD (d:=d67) (Z:=z67) (Γ:=gam l67) (fn:=Try.f67) (c:=Try.f67.body.getD .skip) (bg tok mixed all_nil bh) Try.func67 (by kernel_rfl) (by kernel_rfl) rfl run67 fun E hk hp=>?_
 obtain ⟨hk0,hk1,hk2,hk3,hk4,hk5,_⟩:=hk
 obtain ⟨m,e0,e1,e2,e3,e4,b0,b1,b2,b3⟩:=cv (d0:=E 0) (d1:=E 1) (d2:=E 2) (d3:=E 3) (d4:=E 4) hk0 hk1 hk2 hk3 hk4
 obtain ⟨x,e5⟩:=ok_int (d:=E 5) hk5
 have el : aH E d67.sig.ins.length=[au m.slots,af m.heads,af m.free,af m.locks,.i m.now,.i x]:=by
  show [E 0,E 1,E 2,E 3,E 4,E 5]=_
  rw [e0,e1,e2,e3,e4,e5]
 rw [el] at hp
 rw [el]
 rw [Env.bJ el]
 clear el e0 e1 e2 e3 e4 e5
 rw [fn67]
 simp only [d67,mem_of,aA,List.getD_cons_zero,List.getD_cons_succ,CD.aR] at hp
 unfold hold
 unfold t67
 have hm : m.slots.getD x.toNat default=msl m x.toNat:=rfl
 refine ag (by simp only [nrm,xdn,reduceIte,Nat.reduceLT,Nat.reduceSub,Nat.reduceAdd];omega) (ag (by simp only [nrm,xdn,reduceIte,Nat.reduceLT,Nat.reduceSub,Nat.reduceAdd,aN];omega) (G0 (fun h=>G0 (fun h'=>?_) (fun h'=>aj ?_)) (fun h=>aj ?_)))
 ·simp only [nrm,xdn,reduceIte,Nat.reduceLT,Nat.reduceSub,Nat.reduceAdd,cX,hm] at h h'
  rw [if_neg (by omega)]
  refine G1 (by simp only [nrm,xdn,reduceIte,Nat.reduceLT,Nat.reduceSub,Nat.reduceAdd,cX,hm];omega) (aj ?_)
  simp only [nrm,xdn,reduceIte,Nat.reduceLT,Nat.reduceSub,Nat.reduceAdd,cX,hm,vI,Mem.cds,lca]
  rw [show (m.slots.modify x.toNat fun s=>{ s with refs:=(msl m x.toNat).refs + 1})=m.slots.modify x.toNat (bx 1) from Hw (fun s=>{ s with refs:=(msl m x.toNat).refs + 1}) (bx 1) m.slots x.toNat rfl]
 ·simp only [nrm,xdn,reduceIte,Nat.reduceLT,Nat.reduceSub,Nat.reduceAdd,cX,hm] at h h'
  rw [if_pos (.inr (by omega))]
  simp only [nrm,xdn,reduceIte,Nat.reduceLT,Nat.reduceSub,Nat.reduceAdd,Mem.cds];rfl
 ·simp only [nrm,xdn,reduceIte,Nat.reduceLT,Nat.reduceSub,Nat.reduceAdd,cX,hm] at h
  rw [if_pos (.inl (by omega))]
  simp only [nrm,xdn,reduceIte,Nat.reduceLT,Nat.reduceSub,Nat.reduceAdd,Mem.cds];rfl
def s68 : Sig:=⟨[.ptr [.own 52 kS,.own 3 kI,.own 3 kI,.own 3 kI,.int .i64],.one (.int .i64)],[]⟩
def d68 : DC:=⟨s68,fun l=>0≤(l.getD 5 .u).int∧(l.getD 5 .u).int < (Mem.of l).slots.length∧0≤(msl (Mem.of l) (l.getD 5 .u).int.toNat).refs∧(msl (Mem.of l) (l.getD 5 .u).int.toNat).refs≤1000∧(Mem.of l).free.length≤1000,fun l=>(put (Mem.of l) (l.getD 5 .u).int).cds⟩
theorem fn68 (m : Mem) (x : Int) : d68.fn [au m.slots,af m.heads,af m.free,af m.locks,.i m.now,.i x]=(put m x).cds:=by simp only [d68,mem_of,aA,List.getD_cons_zero,List.getD_cons_succ,CD.aR]
def l68 : List (Nat × Ct):=[]
def z68 : Cx:={ T:=ttA,C:=sigs l68,F:=[],hints:=[],sig:=s68}
def t68 : Tree :=
 (.need (.le (.int 0) (.var 5))
 (.need (.lt (.var 5) (.len (.var 0)))
 (.ite (.eq (.cell (.var 0) (.var 5) 0) (.int 0))
 (.ret [.var 0,.var 1,.var 2,.var 3,.var 4])
 (.ite (.eq (.cell (.var 0) (.var 5) 0) (.int 1))
 (.need (.le (.len (.var 2)) (.int 17592186044416))
 (.need (.le (.add (.len (.var 2)) (.int 1)) (.int 17592186044416))
 (.ret [.set (.var 0) (.var 5) 0 (.int 0),.var 1,.app (.app .nil (.var 2)) (.cons (.var 5) .row0),.var 3,.var 4])))
 (.need (.fit (.sub (.cell (.var 0) (.var 5) 0) (.int 1)))
 (.ret [.set (.var 0) (.var 5) 0 (.sub (.cell (.var 0) (.var 5) 0) (.int 1)),.var 1,.var 2,.var 3,.var 4]))))))
theorem run68 : run z68 6000 [.code (Try.f68.body.getD .skip),.fin (bt z68 Try.f68.results.toList 50)] { fn:=68,tmps:=z68.sig.aM ++ List.replicate (Try.f68.ntmps - z68.sig.aM.length) (.v (.one .undef)),stk:=[],h:=z68.sig.h0,nx:=z68.sig.ins.length,known:=[]}=t68:=by kernel_rfl
theorem ok68 : cB Try.prog 68 d68.ct:=by
 refine aD (d:=d68) (Z:=z68) (Γ:=gam l68) (fn:=Try.f68) (c:=Try.f68.body.getD .skip) (bg tok mixed all_nil bh) Try.func68 (by kernel_rfl) (by kernel_rfl) rfl run68 fun E hk hp=>?_
 obtain ⟨hk0,hk1,hk2,hk3,hk4,hk5,_⟩:=hk
 obtain ⟨m,e0,e1,e2,e3,e4,b0,b1,b2,b3⟩:=cv (d0:=E 0) (d1:=E 1) (d2:=E 2) (d3:=E 3) (d4:=E 4) hk0 hk1 hk2 hk3 hk4
 obtain ⟨x,e5⟩:=ok_int (d:=E 5) hk5
 have el : aH E d68.sig.ins.length=[au m.slots,af m.heads,af m.free,af m.locks,.i m.now,.i x]:=by
  show [E 0,E 1,E 2,E 3,E 4,E 5]=_
  rw [e0,e1,e2,e3,e4,e5]
 rw [el] at hp
 rw [el]
 rw [Env.bJ el]
 clear el e0 e1 e2 e3 e4 e5
 rw [fn68]
 simp only [d68,mem_of,aA,List.getD_cons_zero,List.getD_cons_succ,CD.aR] at hp
 unfold put
 unfold t68
 have hm : m.slots.getD x.toNat default=msl m x.toNat:=rfl
 refine ag (by simp only [nrm,xdn,reduceIte,Nat.reduceLT,Nat.reduceSub,Nat.reduceAdd];omega) (ag (by simp only [nrm,xdn,reduceIte,Nat.reduceLT,Nat.reduceSub,Nat.reduceAdd,aN];omega) (G0 (fun h=>aj ?_) (fun h=>G0 (fun h'=>?_) (fun h'=>?_))))
 ·simp only [nrm,xdn,reduceIte,Nat.reduceLT,Nat.reduceSub,Nat.reduceAdd,cX,hm] at h
  rw [if_pos h]
  simp only [nrm,xdn,reduceIte,Nat.reduceLT,Nat.reduceSub,Nat.reduceAdd,Mem.cds]
 ·simp only [nrm,xdn,reduceIte,Nat.reduceLT,Nat.reduceSub,Nat.reduceAdd,cX,hm] at h h'
  rw [if_neg h,if_pos h']
  have hw : (m.slots.modify x.toNat fun s=>{ s with refs:=0})=m.slots.modify x.toNat (bx (-1)):=Hw (fun s=>{ s with refs:=0}) (bx (-1)) m.slots x.toNat (by
   have : (m.slots.getD x.toNat default).refs=1:=h'
   simp only [bx,this];rfl)
  refine eh (by simp only [nrm,xdn,reduceIte,Nat.reduceLT,Nat.reduceSub,Nat.reduceAdd,aw];omega) (eh (by simp only [nrm,xdn,reduceIte,Nat.reduceLT,Nat.reduceSub,Nat.reduceAdd,aw];omega) (aj ?_))
  simp only [nrm,xdn,reduceIte,Nat.reduceLT,Nat.reduceSub,Nat.reduceAdd,cX,hm,vI,Mem.cds,CD.row,List.headD_cons,Dj,gV,hw,List.nil_append]
 ·simp only [nrm,xdn,reduceIte,Nat.reduceLT,Nat.reduceSub,Nat.reduceAdd,cX,hm] at h h'
  rw [if_neg h,if_neg h']
  have hw : (m.slots.modify x.toNat fun s=>{ s with refs:=(msl m x.toNat).refs - 1})=m.slots.modify x.toNat (bx (-1)):=Hw (fun s=>{ s with refs:=(msl m x.toNat).refs - 1}) (bx (-1)) m.slots x.toNat rfl
  refine G1 (by simp only [nrm,xdn,reduceIte,Nat.reduceLT,Nat.reduceSub,Nat.reduceAdd,cX,hm];omega) (aj ?_)
  simp only [nrm,xdn,reduceIte,Nat.reduceLT,Nat.reduceSub,Nat.reduceAdd,cX,hm,vI,Mem.cds,hw]
end Go.Proofs.Ytpmamacjepcdmaa
