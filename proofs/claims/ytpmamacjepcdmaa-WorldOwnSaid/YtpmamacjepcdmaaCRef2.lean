import Derived.Test.YtpmamacjepcdmaaCRef
namespace Go.Proofs.Ytpmamacjepcdmaa
open Go Go.Sy Go.RowKit
set_option linter.unusedSimpArgs false
set_option linter.unusedVariables false
def s61 : Sig:=⟨[.one (.int .i64),.one (.int .i64)],[.agg [.own 52 kS,.own 3 kI,.own 3 kI,.own 3 kI,.int .i64]]⟩
def d61 : DC:=⟨s61,fun l=>0≤(l.getD 0 .u).int∧(l.getD 0 .u).int≤12∧1≤(l.getD 1 .u).int∧(l.getD 1 .u).int≤4,fun l=>(dx (l.getD 0 .u).int (l.getD 1 .u).int).1.cds⟩
theorem fn61 (x x2 : Int) : d61.fn [.i x,.i x2]=(dx x x2).1.cds:=rfl
def l61 : List (Nat × Ct):=[]
def z61 : Cx:={ T:=ttA,C:=sigs l61,F:=[],hints:=[⟨61,3,false,[(6,.lt)],[(1,0,.own 52 kS),(1,2,.own 3 kI)],[],[],0,0,false⟩,⟨61,8,false,[(7,.lt)],[(1,1,.own 3 kI),(1,3,.own 3 kI)],[],[],0,0,false⟩],sig:=s61}
def t61 : Tree :=
 (.need (.fit (.sub (.var 0) (.int 1)))
 (.loop 2 [.int .i64,.sl 48 [.int .i64,.int .i64,.int .i64,.int .i64,.bool,.int .i64],.sl 8 [.int .i64]] [.sub (.var 0) (.int 1),.nil,.nil]
 (.ite (.le (.int 0) (.var 3))
 (.need (.le (.add (.len (.var 5)) (.int 1)) (.int 17592186044416))
 (.need (.le (.add (.len (.var 4)) (.int 1)) (.int 2932031007402))
 (.need (.fit (.sub (.var 3) (.int 1)))
 (.back 2 [.sub (.var 3) (.int 1),.app (.var 4) (.cons (.int 0) (.cons (.int 0) (.cons (.int 0) (.cons (.int 0) (.cons (.bool false) (.cons (.int 0) .row0)))))),.app (.var 5) (.cons (.var 3) .row0)]))))
 (.loop 6 [.int .i64,.sl 8 [.int .i64],.sl 8 [.int .i64]] [.int 1,.nil,.nil]
 (.ite (.le (.var 7) (.var 1))
 (.need (.fit (.sub (.int 0) (.var 7)))
 (.need (.le (.add (.len (.var 8)) (.int 1)) (.int 17592186044416))
 (.need (.le (.add (.len (.var 9)) (.int 1)) (.int 17592186044416))
 (.need (.fit (.add (.var 7) (.int 1)))
 (.back 6 [.add (.var 7) (.int 1),.app (.var 8) (.cons (.sub (.int 0) (.var 7)) .row0),.app (.var 9) (.cons (.int (-1)) .row0)])))))
 (.ret [.var 4,.var 8,.var 5,.var 9,.int 0]))))))
theorem run61 : run z61 6000 [.code (Try.f61.body.getD .skip),.fin (bt z61 Try.f61.results.toList 50)] { fn:=61,tmps:=z61.sig.aM ++ List.replicate (Try.f61.ntmps - z61.sig.aM.length) (.v (.one .undef)),stk:=[],h:=z61.sig.h0,nx:=z61.sig.ins.length,known:=[]}=t61:=by kernel_rfl
theorem ok61 : cB Try.prog 61 d61.ct:=by
 refine aD (d:=d61) (Z:=z61) (Γ:=gam l61) (fn:=Try.f61) (c:=Try.f61.body.getD .skip) (bg tok mixed all_nil bh) Try.func61 (by kernel_rfl) (by kernel_rfl) rfl run61 fun E hk hp=>?_
 obtain ⟨hk0,hk1,_⟩:=hk
 obtain ⟨x,e0⟩:=ok_int (d:=E 0) hk0
 obtain ⟨x2,e1⟩:=ok_int (d:=E 1) hk1
 have el : aH E d61.sig.ins.length=[.i x,.i x2]:=by
  show [E 0,E 1]=_
  rw [e0,e1]
 rw [el] at hp
 rw [el]
 rw [Env.bJ el]
 clear el e0 e1
 rw [fn61]
 have hp : 0≤x∧x≤12∧1≤x2∧x2≤4:=hp
 unfold dx
 unfold t61
 rw [if_neg (by omega)]
 obtain ⟨n,rfl⟩:=Int.eq_ofNat_of_zero_le (show 0≤x by omega)
 obtain ⟨b,rfl⟩:=Int.eq_ofNat_of_zero_le (show 0≤x2 by omega)
 refine G1 (by simp only [nrm,xdn,reduceIte,Nat.reduceLT,Nat.reduceSub,Nat.reduceAdd];omega) ?_
 refine bO (fun ds=>∃ i : Nat,ds=[.i ((n : Int) - 1 - i),au (List.replicate i default),af ((List.range i).map fun k : Nat=>(n : Int) - 1 - (k : Int))]∧i≤n) (fun ds=>((ds.getD 0 .u).int + 1).toNat) ⟨0,by simp only [nrm,xdn,reduceIte,Nat.reduceLT,Nat.reduceSub,Nat.reduceAdd];simp [au,af],by omega⟩ ?_
 rintro ds - ⟨i,rfl,hi⟩
 refine G0 (fun hlt=>?_) (fun hge=>?_)
 ·simp only [nrm,xdn,reduceIte,Nat.reduceLT,Nat.reduceSub,Nat.reduceAdd] at hlt
  refine eh (by simp only [nrm,xdn,reduceIte,Nat.reduceLT,Nat.reduceSub,Nat.reduceAdd,aw,List.length_map,List.length_range];omega) (eh (by simp only [nrm,xdn,reduceIte,Nat.reduceLT,Nat.reduceSub,Nat.reduceAdd,aN,List.length_replicate];omega) (G1 (by simp only [nrm,xdn,reduceIte,Nat.reduceLT,Nat.reduceSub,Nat.reduceAdd];omega) (aV ⟨⟨i + 1,?_,by omega⟩,?_⟩)))
  ·simp only [nrm,xdn,reduceIte,Nat.reduceLT,Nat.reduceSub,Nat.reduceAdd,CD.row,List.headD_cons,gV,F9,List.range_succ,List.map_append,List.replicate_succ']
   congr 2
   omega
  ·simp only [nrm,xdn,reduceIte,Nat.reduceLT,Nat.reduceSub,Nat.reduceAdd];omega
 simp only [nrm,xdn,reduceIte,Nat.reduceLT,Nat.reduceSub,Nat.reduceAdd] at hge
 have hin : i=n:=by omega
 subst hin
 refine bO (fun ds=>∃ j : Nat,ds=[.i ((j : Int) + 1),af ((List.range j).map fun k : Nat=>-1 - (k : Int)),af (List.replicate j (-1))]∧j≤b) (fun ds=>b + 1 - (ds.getD 0 .u).int.toNat) ⟨0,rfl,by omega⟩ ?_
 rintro ds - ⟨j,rfl,hj⟩
 refine G0 (fun hlt=>?_) (fun hge=>?_)
 ·simp only [nrm,xdn,reduceIte,Nat.reduceLT,Nat.reduceSub,Nat.reduceAdd] at hlt
  refine G1 (by simp only [nrm,xdn,reduceIte,Nat.reduceLT,Nat.reduceSub,Nat.reduceAdd];omega) (eh (by simp only [nrm,xdn,reduceIte,Nat.reduceLT,Nat.reduceSub,Nat.reduceAdd,aw,List.length_map,List.length_range];omega) (eh (by simp only [nrm,xdn,reduceIte,Nat.reduceLT,Nat.reduceSub,Nat.reduceAdd,aw,List.length_replicate];omega) (G1 (by simp only [nrm,xdn,reduceIte,Nat.reduceLT,Nat.reduceSub,Nat.reduceAdd];omega) (aV ⟨⟨j + 1,?_,by omega⟩,?_⟩))))
  ·simp only [nrm,xdn,reduceIte,Nat.reduceLT,Nat.reduceSub,Nat.reduceAdd,CD.row,List.headD_cons,gV,List.range_succ,List.map_append,List.replicate_succ']
   have e : (0 : Int) - ((j : Int) + 1)=-1 - j:=by omega
   rw [e]
   rfl
  ·simp only [nrm,xdn,reduceIte,Nat.reduceLT,Nat.reduceSub,Nat.reduceAdd];omega
 simp only [nrm,xdn,reduceIte,Nat.reduceLT,Nat.reduceSub,Nat.reduceAdd] at hge
 have hjb : j=b:=by omega
 subst hjb
 refine aj ?_
 simp only [nrm,xdn,reduceIte,Nat.reduceLT,Nat.reduceSub,Nat.reduceAdd,Int.toNat_natCast,Mem.cds]
def s62 : Sig:=⟨[.agg [.fz kS,.fz kI,.fz kI,.fz kI,.int .i64]],[.agg [.own 52 kS,.own 3 kI,.own 3 kI,.own 3 kI,.int .i64]]⟩
def d62 : DC:=⟨s62,fun _=>True,fun l=>(Mem.of l).cds⟩
theorem fn62 (m : Mem) : d62.fn [au m.slots,af m.heads,af m.free,af m.locks,.i m.now]=m.cds:=by simp only [d62,mem_of,aA]
def l62 : List (Nat × Ct):=[]
def z62 : Cx:={ T:=ttA,C:=sigs l62,F:=[],hints:=[],sig:=s62}
def t62 : Tree :=
 (.need (.le (.len (.var 0)) (.int 2932031007402))
 (.need (.le (.len (.var 1)) (.int 17592186044416))
 (.need (.le (.len (.var 2)) (.int 17592186044416))
 (.need (.le (.len (.var 3)) (.int 17592186044416))
 (.ret [.app .nil (.var 0),.app .nil (.var 1),.app .nil (.var 2),.app .nil (.var 3),.var 4])))))
theorem run62 : run z62 6000 [.code (Try.f62.body.getD .skip),.fin (bt z62 Try.f62.results.toList 50)] { fn:=62,tmps:=z62.sig.aM ++ List.replicate (Try.f62.ntmps - z62.sig.aM.length) (.v (.one .undef)),stk:=[],h:=z62.sig.h0,nx:=z62.sig.ins.length,known:=[]}=t62:=by kernel_rfl
theorem ok62 : cB Try.prog 62 d62.ct:=by
 refine aD (d:=d62) (Z:=z62) (Γ:=gam l62) (fn:=Try.f62) (c:=Try.f62.body.getD .skip) (bg tok mixed all_nil bh) Try.func62 (by kernel_rfl) (by kernel_rfl) rfl run62 fun E hk hp=>?_
 obtain ⟨hk0,hk1,hk2,hk3,hk4,_⟩:=hk
 obtain ⟨m,e0,e1,e2,e3,e4,b0,b1,b2,b3⟩:=cv (d0:=E 0) (d1:=E 1) (d2:=E 2) (d3:=E 3) (d4:=E 4) hk0 hk1 hk2 hk3 hk4
 have el : aH E d62.sig.ins.length=[au m.slots,af m.heads,af m.free,af m.locks,.i m.now]:=by
  show [E 0,E 1,E 2,E 3,E 4]=_
  rw [e0,e1,e2,e3,e4]
 rw [el] at hp
 rw [el]
 rw [Env.bJ el]
 clear el e0 e1 e2 e3 e4
 rw [fn62]
 unfold t62
 refine eh (by simp only [nrm,xdn,reduceIte,Nat.reduceLT,Nat.reduceSub,Nat.reduceAdd,aN];omega) (eh (by simp only [nrm,xdn,reduceIte,Nat.reduceLT,Nat.reduceSub,Nat.reduceAdd,aw];omega) (eh (by simp only [nrm,xdn,reduceIte,Nat.reduceLT,Nat.reduceSub,Nat.reduceAdd,aw];omega) (eh (by simp only [nrm,xdn,reduceIte,Nat.reduceLT,Nat.reduceSub,Nat.reduceAdd,aw];omega) (aj ?_))))
 simp only [nrm,xdn,reduceIte,Nat.reduceLT,Nat.reduceSub,Nat.reduceAdd,List.nil_append,Mem.cds]
 rfl
def F2 (L : List Int) : CD:=.l (L.map fun k=>[.i k,.b true])
theorem Iz (k : Int) : ∀ L : List Int,((CD.find (F2 L).rows [.i k] 1).getD []).getD 1 (.b false)=.b (decide (k∈L))
 | []=>rfl
 | a :: L=>by
  have ih:=Iz k L
  simp only [F2,CD.ax,CD.find,List.map_cons,List.find?_cons,List.take_succ_cons,List.take_zero,kJ,CD.eqs,Bool.and_true] at ih ⊢
  cases h : (a ==k) with
  | true =>
   have:=eq_of_beq h
   subst this
   simp
  | false =>
   have : k≠a:=fun e=>by subst e;simp at h
   simp only [ih,List.mem_cons,this,false_or]
def s58 : Sig:=⟨[.agg [.fz kS,.fz kI,.fz kI,.fz kI,.int .i64]],[.one (.int .i64)]⟩
def d58 : DC:=⟨s58,fun _=>True,fun l=>[.i (cP (Mem.of l))]⟩
theorem fn58 (m : Mem) : d58.fn [au m.slots,af m.heads,af m.free,af m.locks,.i m.now]=[.i (cP m)]:=by simp only [d58,mem_of,aA]
def l58 : List (Nat × Ct):=[(65,d65.ct)]
def z58 : Cx:={ T:=ttA,C:=sigs l58,F:=[],hints:=[⟨58,9,false,[(46,.lt)],[],[],[],0,0,false⟩,⟨58,17,false,[(87,.lt)],[],[],[],0,0,false⟩,⟨58,27,false,[(127,.lt)],[],[],[0],0,0,false⟩,⟨58,36,false,[(156,.lt)],[],[],[],0,0,false⟩],sig:=s58}
def t58 : Tree :=
 (.ite (.lt (.int 12) (.len (.var 0)))
 (.ret [.int 2])
 (.ite (.lt (.len (.var 1)) (.int 1))
 (.ret [.int 2])
 (.ite (.lt (.int 4) (.len (.var 1)))
 (.ret [.int 2])
 (.ite (.not (.eq (.len (.var 3)) (.len (.var 1))))
 (.ret [.int 4])
 (.ite (.lt (.var 4) (.int 0))
 (.ret [.int 3])
 (.ite (.lt (.int 1000000) (.var 4))
 (.ret [.int 3])
 (.loop 5 [.int .i64] [.int 0]
 (.ite (.lt (.var 6) (.len (.var 0)))
 (.need (.le (.int 0) (.var 6))
 (.ite (.lt (.cell (.var 0) (.var 6) 0) (.int 0))
 (.ret [.int 3])
 (.ite (.lt (.int 1000) (.cell (.var 0) (.var 6) 0))
 (.ret [.int 3])
 (.ite (.lt (.cell (.var 0) (.var 6) 3) (.int 0))
 (.ret [.int 3])
 (.ite (.lt (.int 2000000) (.cell (.var 0) (.var 6) 3))
 (.ret [.int 3])
 (.call 65 [.cell (.var 0) (.var 6) 1,.cell (.var 0) (.var 6) 2] 7
 (.ite (.not (.var 7))
 (.ret [.int 3])
 (.ite (.lt (.len (.var 0)) (.cell (.var 0) (.var 6) 5))
 (.ret [.int 5])
 (.need (.fit (.sub (.int 0) (.len (.var 1))))
 (.ite (.lt (.cell (.var 0) (.var 6) 5) (.sub (.int 0) (.len (.var 1))))
 (.ret [.int 5])
 (.need (.fit (.add (.var 6) (.int 1)))
 (.back 5 [.add (.var 6) (.int 1)]))))))))))))
 (.loop 7 [.int .i64] [.int 0]
 (.ite (.lt (.var 8) (.len (.var 1)))
 (.need (.le (.int 0) (.var 8))
 (.ite (.eq (.cell (.var 1) (.var 8) 0) (.int 0))
 (.ret [.int 5])
 (.ite (.lt (.len (.var 0)) (.cell (.var 1) (.var 8) 0))
 (.ret [.int 5])
 (.need (.fit (.sub (.int 0) (.len (.var 1))))
 (.ite (.lt (.cell (.var 1) (.var 8) 0) (.sub (.int 0) (.len (.var 1))))
 (.ret [.int 5])
 (.need (.lt (.var 8) (.len (.var 3)))
 (.ite (.lt (.cell (.var 3) (.var 8) 0) (.int (-1)))
 (.ret [.int 3])
 (.ite (.lt (.int 4) (.cell (.var 3) (.var 8) 0))
 (.ret [.int 3])
 (.need (.fit (.add (.var 8) (.int 1)))
 (.back 7 [.add (.var 8) (.int 1)]))))))))))
 (.loop 9 [.int .i64,.sl 0 [.int .i64,.bool]] [.int 0,.nil]
 (.ite (.lt (.var 10) (.len (.var 2)))
 (.need (.le (.int 0) (.var 10))
 (.ite (.lt (.cell (.var 2) (.var 10) 0) (.int 0))
 (.ret [.int 5])
 (.ite (.le (.len (.var 0)) (.cell (.var 2) (.var 10) 0))
 (.ret [.int 5])
 (.need (.le (.int 0) (.cell (.var 2) (.var 10) 0))
 (.need (.lt (.cell (.var 2) (.var 10) 0) (.len (.var 0)))
 (.ite (.lt (.int 0) (.cell (.var 0) (.cell (.var 2) (.var 10) 0) 0))
 (.ret [.int 5])
 (.ite (.look (.var 11) (.cons (.cell (.var 2) (.var 10) 0) .row0) (.bool false) 1 1)
 (.ret [.int 6])
 (.need (.fit (.add (.var 10) (.int 1)))
 (.back 9 [.add (.var 10) (.int 1),.app (.cons (.cell (.var 2) (.var 10) 0) (.cons (.bool true) .row0)) (.var 11)])))))))))
 (.loop 12 [.int .i64] [.int 0]
 (.ite (.lt (.var 13) (.len (.var 0)))
 (.need (.le (.int 0) (.var 13))
 (.ite (.eq (.cell (.var 0) (.var 13) 0) (.int 0))
 (.ite (.not (.look (.var 11) (.cons (.var 13) .row0) (.bool false) 1 1))
 (.ret [.int 4])
 (.need (.fit (.add (.var 13) (.int 1)))
 (.back 12 [.add (.var 13) (.int 1)])))
 (.need (.fit (.add (.var 13) (.int 1)))
 (.back 12 [.add (.var 13) (.int 1)]))))
 (.ret [.int 0])))))))))))))))
theorem run58 : run z58 6000 [.code (Try.f58.body.getD .skip),.fin (bt z58 Try.f58.results.toList 50)] { fn:=58,tmps:=z58.sig.aM ++ List.replicate (Try.f58.ntmps - z58.sig.aM.length) (.v (.one .undef)),stk:=[],h:=z58.sig.h0,nx:=z58.sig.ins.length,known:=[]}=t58:=by kernel_rfl
theorem ok58 : cB Try.prog 58 d58.ct:=by
 refine aD (d:=d58) (Z:=z58) (Γ:=gam l58) (fn:=Try.f58) (c:=Try.f58.body.getD .skip) (bg tok mixed (all_cons ok65 all_nil) bh) Try.func58 (by kernel_rfl) (by kernel_rfl) rfl run58 fun E hk hp=>?_
 obtain ⟨hk0,hk1,hk2,hk3,hk4,_⟩:=hk
 obtain ⟨m,e0,e1,e2,e3,e4,b0,b1,b2,b3⟩:=cv (d0:=E 0) (d1:=E 1) (d2:=E 2) (d3:=E 3) (d4:=E 4) hk0 hk1 hk2 hk3 hk4
 have el : aH E d58.sig.ins.length=[au m.slots,af m.heads,af m.free,af m.locks,.i m.now]:=by
  show [E 0,E 1,E 2,E 3,E 4]=_
  rw [e0,e1,e2,e3,e4]
 rw [el] at hp
 rw [el]
 rw [Env.bJ el]
 clear el e0 e1 e2 e3 e4
 rw [fn58]
 unfold t58
 refine G0 (fun h=>?_) (fun h1=>G0 (fun h=>?_) (fun h2=>G0 (fun h=>?_) (fun h3=>G0 (fun h=>?_) (fun h4=>G0 (fun h=>?_) (fun h5=>G0 (fun h=>?_) (fun h6=>?_))))))
 case refine_1 | refine_2 | refine_3 | refine_4 | refine_5 | refine_6 =>
  refine aj ?_
  simp only [nrm,xdn,reduceIte,Nat.reduceLT,Nat.reduceSub,Nat.reduceAdd,aN,aw,Bool.not_eq_true',Bool.not_eq_false'] at *
  unfold cP
  repeat (first | rw [if_pos (by omega)] | rw [if_neg (by omega)])
 simp only [nrm,xdn,reduceIte,Nat.reduceLT,Nat.reduceSub,Nat.reduceAdd,aN,aw,Bool.not_eq_true',Bool.not_eq_false'] at h1 h2 h3 h4 h5 h6
 unfold cP
 rw [if_neg (by omega),if_neg (by omega),if_neg (by omega)]
 have hl : m.locks.length=m.heads.length:=by omega
 refine bO (fun ds=>∃ i : Nat,ds=[.i i]∧i≤m.slots.length∧Hq m.slots.length m.heads.length m.slots=Hq m.slots.length m.heads.length (m.slots.drop i)) (fun ds=>m.slots.length - (ds.getD 0 .u).int.toNat) ⟨0,rfl,by omega,rfl⟩ ?_
 rintro ds - ⟨i,rfl,hi,ht⟩
 refine G0 (fun hlt=>?_) (fun hge=>?_)
 ·simp only [nrm,xdn,reduceIte,Nat.reduceLT,Nat.reduceSub,Nat.reduceAdd,aN] at hlt
  have hs:=um (ns:=m.slots.length) (nh:=m.heads.length) (l:=m.slots) (i:=i) (by omega)
  refine ag (by simp only [nrm,xdn,reduceIte,Nat.reduceLT,Nat.reduceSub,Nat.reduceAdd];omega) ?_
  have bad : ∀ e : Int,e≠0→gb m.slots.length m.heads.length (m.slots.getD i default)=e→[CD.i e]=[CD.i (if Hq m.slots.length m.heads.length m.slots≠0 then Hq m.slots.length m.heads.length m.slots else if cV m.slots.length m.heads.length m.heads m.locks≠0 then cV m.slots.length m.heads.length m.heads m.locks
    else if (bD m.slots m.free (List.replicate m.slots.length false)).1≠0 then (bD m.slots m.free (List.replicate m.slots.length false)).1 else Hv m.slots (bD m.slots m.free (List.replicate m.slots.length false)).2)]:=fun e he hx=>by
   have : Hq m.slots.length m.heads.length m.slots=e:=by rw [ht,hs,hx,if_pos he]
   rw [this,if_pos he]
  refine G0 (fun c1=>aj ?_) (fun c1=>G0 (fun c2=>aj ?_) (fun c2=>G0 (fun c3=>aj ?_) (fun c3=>G0 (fun c4=>aj ?_) (fun c4=>?_))))
  case refine_1 | refine_2 | refine_3 | refine_4 =>
   simp only [nrm,xdn,reduceIte,Nat.reduceLT,Nat.reduceSub,Nat.reduceAdd,Int.toNat_natCast,cX,cy] at *
   exact bad 3 (by decide) (by unfold gb;rw [if_pos (by omega)])
  simp only [nrm,xdn,reduceIte,Nat.reduceLT,Nat.reduceSub,Nat.reduceAdd,Int.toNat_natCast,cX,cy] at c1 c2 c3 c4
  refine ai d65 [.b (isKey (m.slots.getD i default).k)] rfl trivial (by simp only [nrm,xdn,reduceIte,Nat.reduceLT,Nat.reduceSub,Nat.reduceAdd,d65,zF,cG,cF,eZ,Int.toNat_natCast]) (G0 (fun c5=>aj ?_) (fun c5=>?_))
  ·simp only [nrm,xdn,reduceIte,Nat.reduceLT,Nat.reduceSub,Nat.reduceAdd,Bool.not_eq_true'] at c5
   exact bad 3 (by decide) (by unfold gb;rw [if_neg (by omega),Je c5,if_pos (by decide)])
  simp only [nrm,xdn,reduceIte,Nat.reduceLT,Nat.reduceSub,Nat.reduceAdd,Bool.not_eq_false'] at c5
  have c5:=HP c5
  refine G0 (fun c6=>aj ?_) (fun c6=>G1 (by simp only [nrm,xdn,reduceIte,Nat.reduceLT,Nat.reduceSub,Nat.reduceAdd,aw];omega) (G0 (fun c7=>aj ?_) (fun c7=>?_)))
  case refine_1 | refine_2 =>
   simp only [nrm,xdn,reduceIte,Nat.reduceLT,Nat.reduceSub,Nat.reduceAdd,Int.toNat_natCast,cE,aN,aw] at *
   exact bad 5 (by decide) (by unfold gb;rw [if_neg (by omega),if_neg (by omega),if_neg (by omega)])
  simp only [nrm,xdn,reduceIte,Nat.reduceLT,Nat.reduceSub,Nat.reduceAdd,Int.toNat_natCast,cE,aN,aw] at c6 c7
  refine G1 (by simp only [nrm,xdn,reduceIte,Nat.reduceLT,Nat.reduceSub,Nat.reduceAdd];omega) (aV ⟨⟨i + 1,?_,by omega,?_⟩,?_⟩)
  ·simp only [nrm,xdn,reduceIte,Nat.reduceLT,Nat.reduceSub,Nat.reduceAdd];rfl
  ·rw [ht,hs,if_neg (fun hx=>hx (by unfold gb;rw [if_neg (by omega),if_neg (by omega),if_pos (by omega)]))]
  ·simp only [nrm,xdn,reduceIte,Nat.reduceLT,Nat.reduceSub,Nat.reduceAdd];omega
 simp only [nrm,xdn,reduceIte,Nat.reduceLT,Nat.reduceSub,Nat.reduceAdd,aN] at hge
 have hS : Hq m.slots.length m.heads.length m.slots=0:=by rw [ht,List.drop_of_length_le (by omega)];rfl
 have hsl:=kD.1 hS
 rw [hS,if_neg (fun h=>h rfl)]
 clear hge ht hi
 refine bO (fun ds=>∃ i : Nat,ds=[.i i]∧i≤m.heads.length∧cV m.slots.length m.heads.length m.heads m.locks=cV m.slots.length m.heads.length (m.heads.drop i) (m.locks.drop i)) (fun ds=>m.heads.length - (ds.getD 0 .u).int.toNat) ⟨0,rfl,by omega,rfl⟩ ?_
 rintro ds - ⟨j,rfl,hj,ht⟩
 refine G0 (fun hlt=>?_) (fun hge=>?_)
 ·simp only [nrm,xdn,reduceIte,Nat.reduceLT,Nat.reduceSub,Nat.reduceAdd,aw] at hlt
  have hs:=uu (ns:=m.slots.length) (nh:=m.heads.length) (l:=m.heads) (m:=m.locks) (i:=j) (by omega) (by omega)
  refine ag (by simp only [nrm,xdn,reduceIte,Nat.reduceLT,Nat.reduceSub,Nat.reduceAdd];omega) ?_
  have bad : ∀ e : Int,e≠0→gw m.slots.length m.heads.length (m.heads.getD j 0) (m.locks.getD j 0)=e→[CD.i e]=[CD.i (if cV m.slots.length m.heads.length m.heads m.locks≠0 then cV m.slots.length m.heads.length m.heads m.locks
    else if (bD m.slots m.free (List.replicate m.slots.length false)).1≠0 then (bD m.slots m.free (List.replicate m.slots.length false)).1 else Hv m.slots (bD m.slots m.free (List.replicate m.slots.length false)).2)]:=fun e he hx=>by
   have : cV m.slots.length m.heads.length m.heads m.locks=e:=by rw [ht,hs,hx,if_pos he]
   rw [this,if_pos he]
  refine G0 (fun c1=>aj ?_) (fun c1=>G0 (fun c2=>aj ?_) (fun c2=>G1 (by simp only [nrm,xdn,reduceIte,Nat.reduceLT,Nat.reduceSub,Nat.reduceAdd,aw];omega) (G0 (fun c3=>aj ?_) (fun c3=>?_))))
  ·simp only [nrm,xdn,reduceIte,Nat.reduceLT,Nat.reduceSub,Nat.reduceAdd,Int.toNat_natCast,aG] at c1
   exact bad 5 (by decide) (by unfold gw;rw [if_pos c1])
  case refine_2 | refine_3 =>
   simp only [nrm,xdn,reduceIte,Nat.reduceLT,Nat.reduceSub,Nat.reduceAdd,Int.toNat_natCast,aG,aN,aw] at *
   exact bad 5 (by decide) (by unfold gw;rw [if_neg c1,if_neg (by omega)])
  simp only [nrm,xdn,reduceIte,Nat.reduceLT,Nat.reduceSub,Nat.reduceAdd,Int.toNat_natCast,aG,aN,aw] at c1 c2 c3
  refine lv (by simp only [nrm,xdn,reduceIte,Nat.reduceLT,Nat.reduceSub,Nat.reduceAdd,aw];omega) (G0 (fun c4=>aj ?_) (fun c4=>G0 (fun c5=>aj ?_) (fun c5=>?_)))
  case refine_1 | refine_2 =>
   simp only [nrm,xdn,reduceIte,Nat.reduceLT,Nat.reduceSub,Nat.reduceAdd,Int.toNat_natCast,aG] at *
   exact bad 3 (by decide) (by unfold gw;rw [if_neg c1,if_pos (by omega),if_pos (by omega)])
  simp only [nrm,xdn,reduceIte,Nat.reduceLT,Nat.reduceSub,Nat.reduceAdd,Int.toNat_natCast,aG] at c4 c5
  refine G1 (by simp only [nrm,xdn,reduceIte,Nat.reduceLT,Nat.reduceSub,Nat.reduceAdd];omega) (aV ⟨⟨j + 1,?_,by omega,?_⟩,?_⟩)
  ·simp only [nrm,xdn,reduceIte,Nat.reduceLT,Nat.reduceSub,Nat.reduceAdd];rfl
  ·rw [ht,hs,if_neg (fun hx=>hx (by unfold gw;rw [if_neg c1,if_pos (by omega),if_neg (by omega)]))]
  ·simp only [nrm,xdn,reduceIte,Nat.reduceLT,Nat.reduceSub,Nat.reduceAdd];omega
 simp only [nrm,xdn,reduceIte,Nat.reduceLT,Nat.reduceSub,Nat.reduceAdd,aw] at hge
 have hH : cV m.slots.length m.heads.length m.heads m.locks=0:=by rw [ht,List.drop_of_length_le (by omega),List.drop_of_length_le (by omega)];rfl
 rw [hH,if_neg (fun h=>h rfl)]
 clear hge ht hj
 refine bO (fun ds=>∃ (seen : List Bool) (L : List Int) (i : Nat),ds=[.i i,F2 L]∧seen.length=m.slots.length∧i≤m.free.length∧bD m.slots m.free (List.replicate m.slots.length false)=bD m.slots (m.free.drop i) seen∧∀ a : Nat,a < m.slots.length→(seen.getD a false=true↔(a : Int)∈L)) (fun ds=>m.free.length - (ds.getD 0 .u).int.toNat)
  ⟨List.replicate m.slots.length false,[],0,rfl,by simp,by omega,rfl,fun a ha=>by simp [List.getD_eq_getElem?_getD,List.getElem?_replicate,ha]⟩ ?_
 rintro ds - ⟨seen,L,n,rfl,hn,hi,ht,hL⟩
 refine G0 (fun hlt=>?_) (fun hge=>?_)
 ·simp only [nrm,xdn,reduceIte,Nat.reduceLT,Nat.reduceSub,Nat.reduceAdd,aw] at hlt
  have hs:=uv (slots:=m.slots) (l:=m.free) (seen:=seen) (i:=n) (by omega)
  refine ag (by simp only [nrm,xdn,reduceIte,Nat.reduceLT,Nat.reduceSub,Nat.reduceAdd];omega) ?_
  have bad : ∀ e : Int,e≠0→bD m.slots (m.free.drop n) seen=(e,seen)→[CD.i e]=[CD.i (if (bD m.slots m.free (List.replicate m.slots.length false)).1≠0 then (bD m.slots m.free (List.replicate m.slots.length false)).1 else Hv m.slots (bD m.slots m.free (List.replicate m.slots.length false)).2)]:=fun e he hx=>by
   rw [ht,hx,if_pos he]
  refine G0 (fun c1=>aj ?_) (fun c1=>G0 (fun c2=>aj ?_) (fun c2=>?_))
  case refine_1 | refine_2 =>
   simp only [nrm,xdn,reduceIte,Nat.reduceLT,Nat.reduceSub,Nat.reduceAdd,Int.toNat_natCast,aG,aN] at *
   exact bad 5 (by decide) (by rw [hs,if_pos (by omega)])
  simp only [nrm,xdn,reduceIte,Nat.reduceLT,Nat.reduceSub,Nat.reduceAdd,Int.toNat_natCast,aG,aN] at c1 c2
  have hr:=hsl (m.slots.getD (m.free.getD n 0).toNat default) (by
   rw [List.getD_eq_getElem?_getD,List.getElem?_eq_getElem (by omega),Option.getD_some];exact List.getElem_mem _)
  have hr0:=hr.r0
  refine ag (by simp only [nrm,xdn,reduceIte,Nat.reduceLT,Nat.reduceSub,Nat.reduceAdd,Int.toNat_natCast,aG];omega) (ag (by simp only [nrm,xdn,reduceIte,Nat.reduceLT,Nat.reduceSub,Nat.reduceAdd,Int.toNat_natCast,aG,aN];omega) (G0 (fun c3=>aj ?_) (fun c3=>G0 (fun c4=>aj ?_) (fun c4=>?_))))
  ·simp only [nrm,xdn,reduceIte,Nat.reduceLT,Nat.reduceSub,Nat.reduceAdd,Int.toNat_natCast,aG,cX] at c3
   exact bad 5 (by decide) (by rw [hs,if_neg (by omega),if_pos (by omega)])
  ·simp only [nrm,xdn,reduceIte,Nat.reduceLT,Nat.reduceSub,Nat.reduceAdd,Int.toNat_natCast,aG,cX,CD.row,List.headD_cons,iK (show n < m.free.length by omega),Iz] at c3 c4
   exact bad 6 (by decide) (by rw [hs,if_neg (by omega),if_neg (by omega),if_pos ((hL _ (by omega)).2 (by rw [show (((m.free.getD n 0).toNat : Nat) : Int)=m.free.getD n 0 from by omega];exact c4))])
  simp only [nrm,xdn,reduceIte,Nat.reduceLT,Nat.reduceSub,Nat.reduceAdd,Int.toNat_natCast,aG,cX,CD.row,List.headD_cons,iK (show n < m.free.length by omega),Iz] at c3 c4
  refine G1 (by simp only [nrm,xdn,reduceIte,Nat.reduceLT,Nat.reduceSub,Nat.reduceAdd];omega) (aV ⟨⟨seen.set (m.free.getD n 0).toNat true,m.free.getD n 0 :: L,n + 1,?_,by simp [hn],by omega,?_,fun a ha=>?_⟩,?_⟩)
  ·simp only [nrm,xdn,reduceIte,Nat.reduceLT,Nat.reduceSub,Nat.reduceAdd,Int.toNat_natCast,CD.row,List.headD_cons,iK (show n < m.free.length by omega)]
   rfl
  ·rw [ht,hs,if_neg (by omega),if_neg (by omega),if_neg (fun h=>c4 (by have:=(hL _ (by omega)).1 h;rw [show (((m.free.getD n 0).toNat : Nat) : Int)=m.free.getD n 0 from by omega] at this;exact this))]
  ·rw [gT,List.mem_cons]
   by_cases e : (m.free.getD n 0).toNat=a
   ·rw [if_pos ⟨e,by omega⟩]
    exact ⟨fun _=>.inl (by omega),fun _=>rfl⟩
   ·rw [if_neg (fun h=>e h.1),hL a ha]
    exact ⟨.inr,fun h=>h.resolve_left (by omega)⟩
  ·simp only [nrm,xdn,reduceIte,Nat.reduceLT,Nat.reduceSub,Nat.reduceAdd];omega
 simp only [nrm,xdn,reduceIte,Nat.reduceLT,Nat.reduceSub,Nat.reduceAdd,aw] at hge
 have hF : bD m.slots m.free (List.replicate m.slots.length false)=(0,seen):=by rw [ht,List.drop_of_length_le (by omega)];rfl
 rw [hF]
 simp only [ne_eq,not_true_eq_false,if_false]
 clear hge ht hi
 refine bO (fun ds=>∃ i : Nat,ds=[.i i]∧i≤m.slots.length∧Hv m.slots seen=Hv (m.slots.drop i) (seen.drop i)) (fun ds=>m.slots.length - (ds.getD 0 .u).int.toNat) ⟨0,rfl,by omega,rfl⟩ ?_
 rintro ds - ⟨i,rfl,hi,ht⟩
 refine G0 (fun hlt=>?_) (fun hge=>?_)
 ·simp only [nrm,xdn,reduceIte,Nat.reduceLT,Nat.reduceSub,Nat.reduceAdd,aN] at hlt
  have hs:=v7 (l:=m.slots) (m:=seen) (i:=i) (by omega) (by omega)
  have hLi:=hL i (by omega)
  refine ag (by simp only [nrm,xdn,reduceIte,Nat.reduceLT,Nat.reduceSub,Nat.reduceAdd];omega) (G0 (fun c1=>G0 (fun c2=>aj ?_) (fun c2=>?_)) (fun c1=>?_))
  ·simp only [nrm,xdn,reduceIte,Nat.reduceLT,Nat.reduceSub,Nat.reduceAdd,Int.toNat_natCast,cX,CD.row,List.headD_cons,Iz,Bool.not_eq_true',decide_eq_false_iff_not] at c1 c2 ⊢
   rw [ht,hs,if_pos ⟨c1,by cases h : seen.getD i false with
    | false=>rfl
    | true=>exact absurd (hLi.1 h) c2⟩]
  ·simp only [nrm,xdn,reduceIte,Nat.reduceLT,Nat.reduceSub,Nat.reduceAdd,Int.toNat_natCast,cX,CD.row,List.headD_cons,Iz,Bool.not_eq_false',decide_eq_true_eq] at c1 c2
   refine G1 (by simp only [nrm,xdn,reduceIte,Nat.reduceLT,Nat.reduceSub,Nat.reduceAdd];omega) (aV ⟨⟨i + 1,?_,by omega,?_⟩,?_⟩)
   ·simp only [nrm,xdn,reduceIte,Nat.reduceLT,Nat.reduceSub,Nat.reduceAdd];rfl
   ·rw [ht,hs,if_neg (fun h=>by have:=hLi.2 c2;rw [h.2] at this;cases this)]
   ·simp only [nrm,xdn,reduceIte,Nat.reduceLT,Nat.reduceSub,Nat.reduceAdd];omega
  ·simp only [nrm,xdn,reduceIte,Nat.reduceLT,Nat.reduceSub,Nat.reduceAdd,Int.toNat_natCast,cX] at c1
   refine G1 (by simp only [nrm,xdn,reduceIte,Nat.reduceLT,Nat.reduceSub,Nat.reduceAdd];omega) (aV ⟨⟨i + 1,?_,by omega,?_⟩,?_⟩)
   ·simp only [nrm,xdn,reduceIte,Nat.reduceLT,Nat.reduceSub,Nat.reduceAdd];rfl
   ·rw [ht,hs,if_neg (fun h=>c1 h.1)]
   ·simp only [nrm,xdn,reduceIte,Nat.reduceLT,Nat.reduceSub,Nat.reduceAdd];omega
 simp only [nrm,xdn,reduceIte,Nat.reduceLT,Nat.reduceSub,Nat.reduceAdd,aN] at hge
 refine aj ?_
 rw [ht,List.drop_of_length_le (by omega)]
 rfl
end Go.Proofs.Ytpmamacjepcdmaa
