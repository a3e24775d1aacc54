import Derived.Test.YtpmamacjepcdmaaCMemOk
namespace Go.Proofs.Ytpmamacjepcdmaa
open Go Go.Sy Go.RowKit
set_option linter.unusedSimpArgs false
set_option linter.unusedVariables false
theorem aC {α : Type} (f g : α→α) : ∀ (l : List α) (i : Nat),(l.modify i f).modify i g=l.modify i (fun a=>g (f a))
 | [],_=>by simp
 | a :: l,0=>by simp
 | a :: l,i + 1=>by simp [aC f g l i]
theorem Hw {α : Type} [Inhabited α] (f g : α→α) : ∀ (l : List α) (i : Nat),f (l.getD i default)=g (l.getD i default)→l.modify i f=l.modify i g
 | [],_,_=>by simp
 | a :: l,0,h=>by simpa using h
 | a :: l,i + 1,h=>by simp [Hw f g l i (by simpa using h)]
theorem pA {l : List Int} {i : Nat} (h : i < l.length) : l.getD i 0∈l:=by
 rw [List.getD_eq_getElem?_getD,List.getElem?_eq_getElem h];exact List.getElem_mem h
def dx (many buckets : Int) : Mem × Int :=
 if many < 0∨12 < many∨buckets < 1∨4 < buckets then (Mem.none,3)
 else (⟨List.replicate many.toNat default,(List.range buckets.toNat).map (fun b : Nat=>-1 - (b : Int)),(List.range many.toNat).map (fun k : Nat=>many - 1 - (k : Int)),List.replicate buckets.toNat (-1),0⟩,0)
def bc (m : Mem) : Int:=m.free.getD (m.free.length - 1) 0
def cp (k : Key) (till : Int) (s : bp) : bp:=⟨1,k,till,false,s.next⟩
def take (m : Mem) (k : Key) (till : Int) : Mem × Int × Int :=
 if m.free.length=0 then (m,0,7)
 else ({ m with slots:=m.slots.modify (bc m).toNat (cp k till),free:=m.free.take (m.free.length - 1)},bc m,0)
def bx (n : Int) (s : bp) : bp:={ s with refs:=s.refs + n}
def hold (m : Mem) (a : Int) : Mem × Bool :=
 if (msl m a.toNat).refs=0∨(msl m a.toNat).refs=1000 then (m,false) else ({ m with slots:=m.slots.modify a.toNat (bx 1)},true)
def put (m : Mem) (a : Int) : Mem :=
 if (msl m a.toNat).refs=0 then m
 else if (msl m a.toNat).refs=1 then { m with slots:=m.slots.modify a.toNat (bx (-1)),free:=m.free ++ [a]}
 else { m with slots:=m.slots.modify a.toNat (bx (-1))}
def taken (m : Mem) (k : Key) (till : Int) : Mem × Int × Int :=
 if cP m≠0 then (Mem.none,0,cP m) else if checkKey k≠0 then (Mem.none,0,checkKey k) else if till < 0∨2000000 < till then (Mem.none,0,3)
 else if (take m k till).2.2≠0 then (Mem.none,0,(take m k till).2.2) else ((take m k till).1,(take m k till).2.1,0)
def held (m : Mem) (a : Int) : Mem × Int :=
 if cP m≠0 then (Mem.none,cP m) else if 0≤a∧a < m.slots.length then (if (hold m a).2=true then ((hold m a).1,0) else (Mem.none,8)) else (Mem.none,5)
def s57 : Sig:=⟨[.one (.int .i64),.one (.int .i64)],[.agg [.own 52 kS,.own 3 kI,.own 3 kI,.own 3 kI,.int .i64],.one (.int .i64)]⟩
def d57 : DC:=⟨s57,fun _=>True,fun l=>(dx (l.getD 0 .u).int (l.getD 1 .u).int).1.cds ++ [.i (dx (l.getD 0 .u).int (l.getD 1 .u).int).2]⟩
def l57 : List (Nat × Ct):=[]
def z57 : Cx:={ T:=ttA,C:=sigs l57,F:=[],hints:=[⟨57,5,false,[(28,.lt)],[(1,2,.own 3 kI)],[],[],0,0,false⟩,⟨57,10,false,[(42,.lt)],[(1,1,.own 3 kI),(1,3,.own 3 kI)],[],[],0,0,false⟩],sig:=s57}
def t57 : Tree :=
 (.ite (.lt (.var 0) (.int 0))
 (.ret [.nil,.nil,.nil,.nil,.int 0,.int 3])
 (.ite (.lt (.int 12) (.var 0))
 (.ret [.nil,.nil,.nil,.nil,.int 0,.int 3])
 (.ite (.lt (.var 1) (.int 1))
 (.ret [.nil,.nil,.nil,.nil,.int 0,.int 3])
 (.ite (.lt (.int 4) (.var 1))
 (.ret [.nil,.nil,.nil,.nil,.int 0,.int 3])
 (.need (.le (.int 0) (.var 0))
 (.need (.le (.var 0) (.int 2932031007402))
 (.loop 2 [.int .i64,.sl 8 [.int .i64]] [.int 0,.nil]
 (.ite (.lt (.var 3) (.var 0))
 (.need (.fit (.sub (.var 0) (.int 1)))
 (.need (.fit (.sub (.sub (.var 0) (.int 1)) (.var 3)))
 (.need (.le (.add (.len (.var 4)) (.int 1)) (.int 17592186044416))
 (.need (.fit (.add (.var 3) (.int 1)))
 (.back 2 [.add (.var 3) (.int 1),.app (.var 4) (.cons (.sub (.sub (.var 0) (.int 1)) (.var 3)) .row0)])))))
 (.loop 5 [.int .i64,.sl 8 [.int .i64],.sl 8 [.int .i64]] [.int 0,.nil,.nil]
 (.ite (.lt (.var 6) (.var 1))
 (.need (.fit (.sub (.int (-1)) (.var 6)))
 (.need (.le (.add (.len (.var 7)) (.int 1)) (.int 17592186044416))
 (.need (.le (.add (.len (.var 8)) (.int 1)) (.int 17592186044416))
 (.need (.fit (.add (.var 6) (.int 1)))
 (.back 5 [.add (.var 6) (.int 1),.app (.var 7) (.cons (.sub (.int (-1)) (.var 6)) .row0),.app (.var 8) (.cons (.int (-1)) .row0)])))))
 (.need (.le (.var 0) (.len (.rep (.var 0) (.cons (.int 0) (.cons (.int 0) (.cons (.int 0) (.cons (.int 0) (.cons (.bool false) (.cons (.int 0) .row0)))))))))
 (.ret [.take (.var 0) (.rep (.var 0) (.cons (.int 0) (.cons (.int 0) (.cons (.int 0) (.cons (.int 0) (.cons (.bool false) (.cons (.int 0) .row0))))))),.var 7,.var 4,.var 8,.int 0,.int 0]))))))))))))
theorem run57 : run z57 6000 [.code (Try.f57.body.getD .skip),.fin (bt z57 Try.f57.results.toList 50)] { fn:=57,tmps:=z57.sig.aM ++ List.replicate (Try.f57.ntmps - z57.sig.aM.length) (.v (.one .undef)),stk:=[],h:=z57.sig.h0,nx:=z57.sig.ins.length,known:=[]}=t57:=by kernel_rfl
theorem ok57 : cB Try.prog 57 d57.ct:=by
 refine aD (d:=d57) (Z:=z57) (Γ:=gam l57) (fn:=Try.f57) (c:=Try.f57.body.getD .skip) (bg tok mixed all_nil bh) Try.func57 (by kernel_rfl) (by kernel_rfl) rfl run57 fun E hk hp=>?_
 obtain ⟨hk0,hk1,_⟩:=hk
 obtain ⟨x,e0⟩:=ok_int (d:=E 0) hk0
 obtain ⟨x2,e1⟩:=ok_int (d:=E 1) hk1
 have el : aH E d57.sig.ins.length=[.i x,.i x2]:=by
  show [E 0,E 1]=_
  rw [e0,e1]
 rw [el] at hp
 rw [el]
 rw [Env.bJ el]
 clear el e0 e1
 have hc : d57.fn [.i x,.i x2]=(dx x x2).1.cds ++ [.i (dx x x2).2]:=by simp only [d57,List.getD_cons_zero,List.getD_cons_succ,CD.aR]
 rw [hc]
 unfold dx
 unfold t57
 refine G0 (fun h=>aj ?_) (fun h1=>G0 (fun h=>aj ?_) (fun h2=>G0 (fun h=>aj ?_) (fun h3=>G0 (fun h=>aj ?_) (fun h4=>?_))))
 case refine_1 | refine_2 | refine_3 | refine_4 =>
  simp only [nrm,xdn,reduceIte,Nat.reduceLT,Nat.reduceSub,Nat.reduceAdd] at *
  rw [if_pos (by omega)]
  rfl
 simp only [nrm,xdn,reduceIte,Nat.reduceLT,Nat.reduceSub,Nat.reduceAdd] at h1 h2 h3 h4
 rw [if_neg (by omega)]
 obtain ⟨n,rfl⟩:=Int.eq_ofNat_of_zero_le (show 0≤x by omega)
 obtain ⟨b,rfl⟩:=Int.eq_ofNat_of_zero_le (show 0≤x2 by omega)
 refine eh (by simp only [nrm,xdn,reduceIte,Nat.reduceLT,Nat.reduceSub,Nat.reduceAdd];omega) (eh (by simp only [nrm,xdn,reduceIte,Nat.reduceLT,Nat.reduceSub,Nat.reduceAdd];omega) ?_)
 refine bO (fun ds=>∃ i : Nat,ds=[.i i,af ((List.range i).map fun k : Nat=>(n : Int) - 1 - (k : Int))]∧i≤n) (fun ds=>n - (ds.getD 0 .u).int.toNat) ⟨0,rfl,by omega⟩ ?_
 rintro ds - ⟨i,rfl,hi⟩
 refine G0 (fun hlt=>?_) (fun hge=>?_)
 ·simp only [nrm,xdn,reduceIte,Nat.reduceLT,Nat.reduceSub,Nat.reduceAdd] at hlt
  refine G1 (by simp only [nrm,xdn,reduceIte,Nat.reduceLT,Nat.reduceSub,Nat.reduceAdd];omega) (G1 (by simp only [nrm,xdn,reduceIte,Nat.reduceLT,Nat.reduceSub,Nat.reduceAdd];omega) (eh (by simp only [nrm,xdn,reduceIte,Nat.reduceLT,Nat.reduceSub,Nat.reduceAdd,aw,List.length_map,List.length_range];omega) (G1 (by simp only [nrm,xdn,reduceIte,Nat.reduceLT,Nat.reduceSub,Nat.reduceAdd];omega) (aV ⟨⟨i + 1,?_,by omega⟩,?_⟩))))
  ·simp only [nrm,xdn,reduceIte,Nat.reduceLT,Nat.reduceSub,Nat.reduceAdd,CD.row,List.headD_cons,gV,List.range_succ,List.map_append];rfl
  ·simp only [nrm,xdn,reduceIte,Nat.reduceLT,Nat.reduceSub,Nat.reduceAdd];omega
 simp only [nrm,xdn,reduceIte,Nat.reduceLT,Nat.reduceSub,Nat.reduceAdd] at hge
 have hin : i=n:=by omega
 subst hin
 refine bO (fun ds=>∃ j : Nat,ds=[.i j,af ((List.range j).map fun k : Nat=>-1 - (k : Int)),af (List.replicate j (-1))]∧j≤b) (fun ds=>b - (ds.getD 0 .u).int.toNat) ⟨0,rfl,by omega⟩ ?_
 rintro ds - ⟨j,rfl,hj⟩
 refine G0 (fun hlt=>?_) (fun hge=>?_)
 ·simp only [nrm,xdn,reduceIte,Nat.reduceLT,Nat.reduceSub,Nat.reduceAdd] at hlt
  refine G1 (by simp only [nrm,xdn,reduceIte,Nat.reduceLT,Nat.reduceSub,Nat.reduceAdd];omega) (eh (by simp only [nrm,xdn,reduceIte,Nat.reduceLT,Nat.reduceSub,Nat.reduceAdd,aw,List.length_map,List.length_range];omega) (eh (by simp only [nrm,xdn,reduceIte,Nat.reduceLT,Nat.reduceSub,Nat.reduceAdd,aw,List.length_replicate];omega) (G1 (by simp only [nrm,xdn,reduceIte,Nat.reduceLT,Nat.reduceSub,Nat.reduceAdd];omega) (aV ⟨⟨j + 1,?_,by omega⟩,?_⟩))))
  ·simp only [nrm,xdn,reduceIte,Nat.reduceLT,Nat.reduceSub,Nat.reduceAdd,CD.row,List.headD_cons,gV,List.range_succ,List.map_append,List.replicate_succ'];rfl
  ·simp only [nrm,xdn,reduceIte,Nat.reduceLT,Nat.reduceSub,Nat.reduceAdd];omega
 simp only [nrm,xdn,reduceIte,Nat.reduceLT,Nat.reduceSub,Nat.reduceAdd] at hge
 have hjb : j=b:=by omega
 subst hjb
 refine ag (by simp only [nrm,xdn,reduceIte,Nat.reduceLT,Nat.reduceSub,Nat.reduceAdd,List.length_replicate,Int.toNat_natCast];omega) (aj ?_)
 simp only [nrm,xdn,reduceIte,Nat.reduceLT,Nat.reduceSub,Nat.reduceAdd,CD.row,List.headD_cons,BM,yO,Int.toNat_natCast,Mem.cds,lca]
 rw [List.take_of_length_le (by simp)]
def s161 : Sig:=⟨[.agg [.fz kS,.fz kI,.fz kI,.fz kI,.int .i64]],[.agg [.own 52 kS,.own 3 kI,.own 3 kI,.own 3 kI,.int .i64]]⟩
def d161 : DC:=⟨s161,fun _=>True,fun l=>(Mem.of l).cds⟩
def l161 : List (Nat × Ct):=[(205,d205.ct),(53,d53.ct)]
def z161 : Cx:={ T:=ttA,C:=sigs l161,F:=[],hints:=[],sig:=s161}
def t161 : Tree :=
 (.call 205 [.var 0] 5
 (.call 53 [.var 1] 6
 (.call 53 [.var 2] 7
 (.call 53 [.var 3] 8
 (.ret [.var 5,.var 6,.var 7,.var 8,.var 4])))))
theorem run161 : run z161 6000 [.code (Try.f161.body.getD .skip),.fin (bt z161 Try.f161.results.toList 50)] { fn:=161,tmps:=z161.sig.aM ++ List.replicate (Try.f161.ntmps - z161.sig.aM.length) (.v (.one .undef)),stk:=[],h:=z161.sig.h0,nx:=z161.sig.ins.length,known:=[]}=t161:=by kernel_rfl
theorem ok161 : cB Try.prog 161 d161.ct:=by
 refine aD (d:=d161) (Z:=z161) (Γ:=gam l161) (fn:=Try.f161) (c:=Try.f161.body.getD .skip) (bg tok mixed (all_cons ok205 (all_cons ok53 all_nil)) bh) Try.func161 (by kernel_rfl) (by kernel_rfl) rfl run161 fun E hk hp=>?_
 obtain ⟨hk0,hk1,hk2,hk3,hk4,_⟩:=hk
 obtain ⟨m,e0,e1,e2,e3,e4,b0,b1,b2,b3⟩:=cv (d0:=E 0) (d1:=E 1) (d2:=E 2) (d3:=E 3) (d4:=E 4) hk0 hk1 hk2 hk3 hk4
 have el : aH E d161.sig.ins.length=[au m.slots,af m.heads,af m.free,af m.ae,.i m.now]:=by
  show [E 0,E 1,E 2,E 3,E 4]=_
  rw [e0,e1,e2,e3,e4]
 rw [el] at hp
 rw [el]
 rw [Env.bJ el]
 clear el e0 e1 e2 e3 e4
 simp only [d161,mem_of,aA]
 unfold t161
 refine ai d205 [au m.slots] rfl trivial (by simp only [nrm,xdn,reduceIte,Nat.reduceLT,Nat.reduceSub,Nat.reduceAdd,d205,kA]) (ai d53 [af m.heads] rfl trivial (by simp only [nrm,xdn,reduceIte,Nat.reduceLT,Nat.reduceSub,Nat.reduceAdd,d53,bY]) (ai d53 [af m.free] rfl trivial (by simp only [nrm,xdn,reduceIte,Nat.reduceLT,Nat.reduceSub,Nat.reduceAdd,d53,bY]) (ai d53 [af m.ae] rfl trivial (by simp only [nrm,xdn,reduceIte,Nat.reduceLT,Nat.reduceSub,Nat.reduceAdd,d53,bY]) (aj ?_))))
 simp only [nrm,xdn,reduceIte,Nat.reduceLT,Nat.reduceSub,Nat.reduceAdd,Mem.cds]
def s162 : Sig:=⟨[.ptr [.own 52 kS,.own 3 kI,.own 3 kI,.own 3 kI,.int .i64],.agg [.int .i64,.int .i64],.one (.int .i64)],[.one (.int .i64),.one (.int .i64)]⟩
def d162 : DC:=⟨s162,fun l=>(Mem.of l).free.length=0∨(0≤bc (Mem.of l)∧bc (Mem.of l) < (Mem.of l).slots.length),fun l=>(take (Mem.of l) (Key.of (l.drop 5)) (l.getD 7 .u).int).1.cds ++ [.i (take (Mem.of l) (Key.of (l.drop 5)) (l.getD 7 .u).int).2.1,.i (take (Mem.of l) (Key.of (l.drop 5)) (l.getD 7 .u).int).2.2]⟩
def l162 : List (Nat × Ct):=[]
def z162 : Cx:={ T:=ttA,C:=sigs l162,F:=[],hints:=[],sig:=s162}
def t162 : Tree :=
 (.ite (.eq (.len (.var 2)) (.int 0))
 (.ret [.var 0,.var 1,.var 2,.var 3,.var 4,.int 0,.int 7])
 (.need (.fit (.sub (.len (.var 2)) (.int 1)))
 (.need (.le (.int 0) (.sub (.len (.var 2)) (.int 1)))
 (.need (.lt (.sub (.len (.var 2)) (.int 1)) (.len (.var 2)))
 (.need (.le (.sub (.len (.var 2)) (.int 1)) (.len (.var 2)))
 (.need (.le (.int 0) (.cell (.var 2) (.sub (.len (.var 2)) (.int 1)) 0))
 (.need (.lt (.cell (.var 2) (.sub (.len (.var 2)) (.int 1)) 0) (.len (.var 0)))
 (.ret [.set (.set (.set (.set (.set (.var 0) (.cell (.var 2) (.sub (.len (.var 2)) (.int 1)) 0) 0 (.int 1)) (.cell (.var 2) (.sub (.len (.var 2)) (.int 1)) 0) 1 (.var 5)) (.cell (.var 2) (.sub (.len (.var 2)) (.int 1)) 0) 2 (.var 6)) (.cell (.var 2) (.sub (.len (.var 2)) (.int 1)) 0) 3 (.var 7)) (.cell (.var 2) (.sub (.len (.var 2)) (.int 1)) 0) 4 (.bool false),.var 1,.take (.sub (.len (.var 2)) (.int 1)) (.var 2),.var 3,.var 4,.cell (.var 2) (.sub (.len (.var 2)) (.int 1)) 0,.int 0]))))))))
theorem run162 : run z162 6000 [.code (Try.f162.body.getD .skip),.fin (bt z162 Try.f162.results.toList 50)] { fn:=162,tmps:=z162.sig.aM ++ List.replicate (Try.f162.ntmps - z162.sig.aM.length) (.v (.one .undef)),stk:=[],h:=z162.sig.h0,nx:=z162.sig.ins.length,known:=[]}=t162:=by kernel_rfl
theorem ok162 : cB Try.prog 162 d162.ct:=by
 refine aD (d:=d162) (Z:=z162) (Γ:=gam l162) (fn:=Try.f162) (c:=Try.f162.body.getD .skip) (bg tok mixed all_nil bh) Try.func162 (by kernel_rfl) (by kernel_rfl) rfl run162 fun E hk hp=>?_
 obtain ⟨hk0,hk1,hk2,hk3,hk4,hk5,hk6,hk7,_⟩:=hk
 obtain ⟨m,e0,e1,e2,e3,e4,b0,b1,b2,b3⟩:=cv (d0:=E 0) (d1:=E 1) (d2:=E 2) (d3:=E 3) (d4:=E 4) hk0 hk1 hk2 hk3 hk4
 obtain ⟨k,e5,e6⟩:=vM (d0:=E 5) (d1:=E 6) hk5 hk6
 obtain ⟨x,e7⟩:=ok_int (d:=E 7) hk7
 have el : aH E d162.sig.ins.length=[au m.slots,af m.heads,af m.free,af m.ae,.i m.now,.i k.a,.i k.b,.i x]:=by
  show [E 0,E 1,E 2,E 3,E 4,E 5,E 6,E 7]=_
  rw [e0,e1,e2,e3,e4,e5,e6,e7]
 rw [el] at hp
 rw [el]
 rw [Env.bJ el]
 clear el e0 e1 e2 e3 e4 e5 e6 e7
 simp only [d162,mem_of,aA] at hp
 have hc : d162.fn [au m.slots,af m.heads,af m.free,af m.ae,.i m.now,.i k.a,.i k.b,.i x]=(take m k x).1.cds ++ [.i (take m k x).2.1,.i (take m k x).2.2]:=by simp only [d162,mem_of,aA,List.drop_succ_cons,List.drop_zero,jK,eZ,List.getD_cons_zero,List.getD_cons_succ,CD.aR]
 rw [hc]
 unfold take
 unfold t162
 refine G0 (fun h=>aj ?_) (fun h=>?_)
 ·simp only [nrm,xdn,reduceIte,Nat.reduceLT,Nat.reduceSub,Nat.reduceAdd,aw] at h
  rw [if_pos (by omega)]
  simp only [nrm,xdn,reduceIte,Nat.reduceLT,Nat.reduceSub,Nat.reduceAdd,Mem.cds];rfl
 simp only [nrm,xdn,reduceIte,Nat.reduceLT,Nat.reduceSub,Nat.reduceAdd,aw] at h
 rw [if_neg (by omega)]
 have e : ((m.free.length : Int) - 1).toNat=m.free.length - 1:=by omega
 have e2 : m.free.getD (m.free.length - 1) 0=bc m:=rfl
 have e3 : ((af m.free).rows.getD (m.free.length - 1) []).getD 0 .u=.i (bc m):=iK (by omega)
 refine G1 (by simp only [nrm,xdn,reduceIte,Nat.reduceLT,Nat.reduceSub,Nat.reduceAdd,aw];omega) (ag (by simp only [nrm,xdn,reduceIte,Nat.reduceLT,Nat.reduceSub,Nat.reduceAdd,aw];omega) (ag (by simp only [nrm,xdn,reduceIte,Nat.reduceLT,Nat.reduceSub,Nat.reduceAdd,aw];omega) (ag (by simp only [nrm,xdn,reduceIte,Nat.reduceLT,Nat.reduceSub,Nat.reduceAdd,aw];omega) (ag (by simp only [nrm,xdn,reduceIte,Nat.reduceLT,Nat.reduceSub,Nat.reduceAdd,aw,e,aG,e2];omega) (ag (by simp only [nrm,xdn,reduceIte,Nat.reduceLT,Nat.reduceSub,Nat.reduceAdd,aw,e,aG,e2,aN];omega) (aj ?_))))))
 simp only [nrm,xdn,reduceIte,Nat.reduceLT,Nat.reduceSub,Nat.reduceAdd,aw,e,aG,e2,e3,vI,FM,FL,FK,CW,aC,By,Mem.cds,lca]
 rfl
def s166 : Sig:=⟨[.ptr [.own 52 kS,.own 3 kI,.own 3 kI,.own 3 kI,.int .i64],.one (.int .i64)],[.one (.bool)]⟩
def d166 : DC:=⟨s166,fun l=>0≤(l.getD 5 .u).int∧(l.getD 5 .u).int < (Mem.of l).slots.length∧0≤(msl (Mem.of l) (l.getD 5 .u).int.toNat).refs∧(msl (Mem.of l) (l.getD 5 .u).int.toNat).refs≤1000,fun l=>(hold (Mem.of l) (l.getD 5 .u).int).1.cds ++ [.b (hold (Mem.of l) (l.getD 5 .u).int).2]⟩
def l166 : List (Nat × Ct):=[]
def z166 : Cx:={ T:=ttA,C:=sigs l166,F:=[],hints:=[],sig:=s166}
def t166 : Tree :=
 (.need (.le (.int 0) (.var 5))
 (.need (.lt (.var 5) (.len (.var 0)))
 (.ite (.eq (.cell (.var 0) (.var 5) 0) (.int 0))
 (.ret [.var 0,.var 1,.var 2,.var 3,.var 4,.bool false])
 (.ite (.eq (.cell (.var 0) (.var 5) 0) (.int 1000))
 (.ret [.var 0,.var 1,.var 2,.var 3,.var 4,.bool false])
 (.need (.fit (.add (.cell (.var 0) (.var 5) 0) (.int 1)))
 (.ret [.set (.var 0) (.var 5) 0 (.add (.cell (.var 0) (.var 5) 0) (.int 1)),.var 1,.var 2,.var 3,.var 4,.bool true]))))))
theorem run166 : run z166 6000 [.code (Try.f166.body.getD .skip),.fin (bt z166 Try.f166.results.toList 50)] { fn:=166,tmps:=z166.sig.aM ++ List.replicate (Try.f166.ntmps - z166.sig.aM.length) (.v (.one .undef)),stk:=[],h:=z166.sig.h0,nx:=z166.sig.ins.length,known:=[]}=t166:=by kernel_rfl
theorem ok166 : cB Try.prog 166 d166.ct:=by
 refine aD (d:=d166) (Z:=z166) (Γ:=gam l166) (fn:=Try.f166) (c:=Try.f166.body.getD .skip) (bg tok mixed all_nil bh) Try.func166 (by kernel_rfl) (by kernel_rfl) rfl run166 fun E hk hp=>?_
 obtain ⟨hk0,hk1,hk2,hk3,hk4,hk5,_⟩:=hk
 obtain ⟨m,e0,e1,e2,e3,e4,b0,b1,b2,b3⟩:=cv (d0:=E 0) (d1:=E 1) (d2:=E 2) (d3:=E 3) (d4:=E 4) hk0 hk1 hk2 hk3 hk4
 obtain ⟨x,e5⟩:=ok_int (d:=E 5) hk5
 have el : aH E d166.sig.ins.length=[au m.slots,af m.heads,af m.free,af m.ae,.i m.now,.i x]:=by
  show [E 0,E 1,E 2,E 3,E 4,E 5]=_
  rw [e0,e1,e2,e3,e4,e5]
 rw [el] at hp
 rw [el]
 rw [Env.bJ el]
 clear el e0 e1 e2 e3 e4 e5
 simp only [d166,mem_of,aA,List.getD_cons_zero,List.getD_cons_succ,CD.aR] at hp ⊢
 unfold hold
 unfold t166
 have hm : m.slots.getD x.toNat default=msl m x.toNat:=rfl
 refine ag (by simp only [nrm,xdn,reduceIte,Nat.reduceLT,Nat.reduceSub,Nat.reduceAdd];omega) (ag (by simp only [nrm,xdn,reduceIte,Nat.reduceLT,Nat.reduceSub,Nat.reduceAdd,aN];omega) (G0 (fun h=>aj ?_) (fun h=>G0 (fun h'=>aj ?_) (fun h'=>?_))))
 ·simp only [nrm,xdn,reduceIte,Nat.reduceLT,Nat.reduceSub,Nat.reduceAdd,cX,hm] at h
  rw [if_pos (.inl h)]
  simp only [nrm,xdn,reduceIte,Nat.reduceLT,Nat.reduceSub,Nat.reduceAdd,Mem.cds];rfl
 ·simp only [nrm,xdn,reduceIte,Nat.reduceLT,Nat.reduceSub,Nat.reduceAdd,cX,hm] at h'
  rw [if_pos (.inr h')]
  simp only [nrm,xdn,reduceIte,Nat.reduceLT,Nat.reduceSub,Nat.reduceAdd,Mem.cds];rfl
 ·simp only [nrm,xdn,reduceIte,Nat.reduceLT,Nat.reduceSub,Nat.reduceAdd,cX,hm] at h h'
  rw [if_neg (by omega)]
  refine G1 (by simp only [nrm,xdn,reduceIte,Nat.reduceLT,Nat.reduceSub,Nat.reduceAdd,cX,hm];omega) (aj ?_)
  simp only [nrm,xdn,reduceIte,Nat.reduceLT,Nat.reduceSub,Nat.reduceAdd,cX,hm,vI,Mem.cds,lca]
  rw [show (m.slots.modify x.toNat fun s=>{ s with refs:=(msl m x.toNat).refs + 1})=m.slots.modify x.toNat (bx 1) from Hw (fun s=>{ s with refs:=(msl m x.toNat).refs + 1}) (bx 1) m.slots x.toNat rfl]
def s167 : Sig:=⟨[.ptr [.own 52 kS,.own 3 kI,.own 3 kI,.own 3 kI,.int .i64],.one (.int .i64)],[]⟩
def d167 : DC:=⟨s167,fun l=>0≤(l.getD 5 .u).int∧(l.getD 5 .u).int < (Mem.of l).slots.length∧0≤(msl (Mem.of l) (l.getD 5 .u).int.toNat).refs∧(msl (Mem.of l) (l.getD 5 .u).int.toNat).refs≤1000∧(Mem.of l).free.length≤1000,fun l=>(put (Mem.of l) (l.getD 5 .u).int).cds⟩
def l167 : List (Nat × Ct):=[]
def z167 : Cx:={ T:=ttA,C:=sigs l167,F:=[],hints:=[],sig:=s167}
def t167 : Tree :=
 (.need (.le (.int 0) (.var 5))
 (.need (.lt (.var 5) (.len (.var 0)))
 (.ite (.eq (.cell (.var 0) (.var 5) 0) (.int 0))
 (.ret [.var 0,.var 1,.var 2,.var 3,.var 4])
 (.need (.fit (.sub (.cell (.var 0) (.var 5) 0) (.int 1)))
 (.ite (.eq (.sub (.cell (.var 0) (.var 5) 0) (.int 1)) (.int 0))
 (.need (.le (.add (.len (.var 2)) (.int 1)) (.int 17592186044416))
 (.ret [.set (.var 0) (.var 5) 0 (.sub (.cell (.var 0) (.var 5) 0) (.int 1)),.var 1,.app (.var 2) (.cons (.var 5) .row0),.var 3,.var 4]))
 (.ret [.set (.var 0) (.var 5) 0 (.sub (.cell (.var 0) (.var 5) 0) (.int 1)),.var 1,.var 2,.var 3,.var 4]))))))
theorem run167 : run z167 6000 [.code (Try.f167.body.getD .skip),.fin (bt z167 Try.f167.results.toList 50)] { fn:=167,tmps:=z167.sig.aM ++ List.replicate (Try.f167.ntmps - z167.sig.aM.length) (.v (.one .undef)),stk:=[],h:=z167.sig.h0,nx:=z167.sig.ins.length,known:=[]}=t167:=by kernel_rfl
theorem ok167 : cB Try.prog 167 d167.ct:=by
 refine aD (d:=d167) (Z:=z167) (Γ:=gam l167) (fn:=Try.f167) (c:=Try.f167.body.getD .skip) (bg tok mixed all_nil bh) Try.func167 (by kernel_rfl) (by kernel_rfl) rfl run167 fun E hk hp=>?_
 obtain ⟨hk0,hk1,hk2,hk3,hk4,hk5,_⟩:=hk
 obtain ⟨m,e0,e1,e2,e3,e4,b0,b1,b2,b3⟩:=cv (d0:=E 0) (d1:=E 1) (d2:=E 2) (d3:=E 3) (d4:=E 4) hk0 hk1 hk2 hk3 hk4
 obtain ⟨x,e5⟩:=ok_int (d:=E 5) hk5
 have el : aH E d167.sig.ins.length=[au m.slots,af m.heads,af m.free,af m.ae,.i m.now,.i x]:=by
  show [E 0,E 1,E 2,E 3,E 4,E 5]=_
  rw [e0,e1,e2,e3,e4,e5]
 rw [el] at hp
 rw [el]
 rw [Env.bJ el]
 clear el e0 e1 e2 e3 e4 e5
 simp only [d167,mem_of,aA,List.getD_cons_zero,List.getD_cons_succ,CD.aR] at hp ⊢
 unfold put
 unfold t167
 have hm : m.slots.getD x.toNat default=msl m x.toNat:=rfl
 have hw : (m.slots.modify x.toNat fun s=>{ s with refs:=(msl m x.toNat).refs - 1})=m.slots.modify x.toNat (bx (-1)):=Hw (fun s=>{ s with refs:=(msl m x.toNat).refs - 1}) (bx (-1)) m.slots x.toNat rfl
 refine ag (by simp only [nrm,xdn,reduceIte,Nat.reduceLT,Nat.reduceSub,Nat.reduceAdd];omega) (ag (by simp only [nrm,xdn,reduceIte,Nat.reduceLT,Nat.reduceSub,Nat.reduceAdd,aN];omega) (G0 (fun h=>aj ?_) (fun h=>G1 (by simp only [nrm,xdn,reduceIte,Nat.reduceLT,Nat.reduceSub,Nat.reduceAdd,cX,hm];omega) (G0 (fun h'=>?_) (fun h'=>aj ?_)))))
 ·simp only [nrm,xdn,reduceIte,Nat.reduceLT,Nat.reduceSub,Nat.reduceAdd,cX,hm] at h
  rw [if_pos h]
  simp only [nrm,xdn,reduceIte,Nat.reduceLT,Nat.reduceSub,Nat.reduceAdd,Mem.cds]
 ·simp only [nrm,xdn,reduceIte,Nat.reduceLT,Nat.reduceSub,Nat.reduceAdd,cX,hm] at h h'
  rw [if_neg h,if_pos (by omega)]
  refine eh (by simp only [nrm,xdn,reduceIte,Nat.reduceLT,Nat.reduceSub,Nat.reduceAdd,aw];omega) (aj ?_)
  simp only [nrm,xdn,reduceIte,Nat.reduceLT,Nat.reduceSub,Nat.reduceAdd,cX,hm,vI,Mem.cds,CD.row,List.headD_cons,gV,hw]
 ·simp only [nrm,xdn,reduceIte,Nat.reduceLT,Nat.reduceSub,Nat.reduceAdd,cX,hm] at h h'
  rw [if_neg h,if_neg (by omega)]
  simp only [nrm,xdn,reduceIte,Nat.reduceLT,Nat.reduceSub,Nat.reduceAdd,cX,hm,vI,Mem.cds,hw]
end Go.Proofs.Ytpmamacjepcdmaa

namespace Go.Proofs.Ytpmamacjepcdmaa
open Go Go.Sy Go.RowKit
set_option linter.unusedSimpArgs false
set_option linter.unusedVariables false
theorem pj {m : Mem} (h : m.free.length≠0) : bc m∈m.free:=pA (by omega)
theorem pa {l : List Int} {n : Nat} (hd : l.Nodup) (h : ∀ a∈l,0≤a∧a < n) : l.length≤n:=by
 have h1 : (l.map Int.toNat).Nodup:=by
  refine List.pairwise_map.2 (List.Pairwise.imp_of_mem ?_ hd)
  intro a b ha hb hab e
  have:=h a ha
  have:=h b hb
  exact hab (by omega)
 have h2 : (l.map Int.toNat) ⊆ List.range n:=fun x hx=>by
  obtain ⟨a,ha,rfl⟩:=List.mem_map.1 hx
  have:=h a ha
  exact List.mem_range.2 (by omega)
 have:=h1.length_le_of_subset h2
 simpa using this
theorem bB.nf {m : Mem} (h : bB m) : m.free.length≤12:=by
 have h1:=pa h.nodup fun a ha=>⟨(h.free a ha).1,(h.free a ha).2.1⟩
 have:=h.ns
 omega
theorem bB.refs {m : Mem} (h : bB m) {a : Int} (h1 : 0≤a) (h2 : a < m.slots.length) : 0≤(msl m a.toNat).refs∧(msl m a.toNat).refs≤1000:=by
 have:=h.sl (i:=a.toNat) (by omega)
 exact ⟨this.r0,this.r1⟩
end Go.Proofs.Ytpmamacjepcdmaa

namespace Go.Proofs.Ytpmamacjepcdmaa
open Go Go.Sy Go.RowKit
set_option linter.unusedSimpArgs false
set_option linter.unusedVariables false
theorem Bf {Γ : Gam} {R : List CD→Prop} {E : Env} {J : JJ} {b : X} {t e : Tree} (h : (b.den E).bool=true) (ht : t.den Γ R E J) : (Tree.ite b t e).den Γ R E J:=⟨fun _=>ht,fun h'=>by rw [h] at h';cases h'⟩
theorem Fk {Γ : Gam} {R : List CD→Prop} {E : Env} {J : JJ} {b : X} {t e : Tree} (h : (b.den E).bool=false) (ht : e.den Γ R E J) : (Tree.ite b t e).den Γ R E J:=⟨fun h'=>by rw [h] at h';(cases h'),fun _=>ht⟩
end Go.Proofs.Ytpmamacjepcdmaa
