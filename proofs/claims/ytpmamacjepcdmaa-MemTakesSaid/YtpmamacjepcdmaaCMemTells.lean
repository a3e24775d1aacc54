import Derived.Test.YtpmamacjepcdmaaCRef2
import Derived.Test.YtpmamacjepcdmaaCFacts
namespace Go.Proofs.Ytpmamacjepcdmaa
open Go Go.Sy Go.RowKit
set_option linter.unusedSimpArgs false
set_option linter.unusedVariables false
theorem fn51' (m : Mem) : d51.fn [au m.slots,af m.heads,af m.free,af m.locks,.i m.now]=[.i (cP m)]:=by simp only [d51,mem_of,aA]
theorem G8 : d60.fn [.l [],.l [],.l [],.l [],.i 0,.l [],.l [],.l [],.l [],.i 0]=[.b true]:=by
 have:=fn60 Mem.none Mem.none
 rw [decide_eq_true rfl] at this
 exact this
theorem Hm (m : Mem) : d60.fn [au m.slots,af m.heads,af m.free,af m.locks,.i m.now,au m.slots,af m.heads,af m.free,af m.locks,.i m.now]=[.b true]:=by
 rw [fn60,decide_eq_true rfl]
def s7 : Sig:=⟨[.one (.int .i64),.one (.int .i64),.agg [.fz kS,.fz kI,.fz kI,.fz kI,.int .i64],.agg [.fz kS,.fz kI,.fz kI,.fz kI,.int .i64]],[.one (.bool)]⟩
def d7 : DC:=⟨s7,fun _=>True,fun _=>[.b true]⟩
def l7 : List (Nat × Ct):=[(57,d57.ct),(50,d50.ct),(51,d51.ct),(58,d58.ct),(59,d59.ct),(60,d60.ct),(61,d61.ct)]
def z7 : Cx:={ T:=ttA,C:=sigs l7,F:=[],hints:=[],sig:=s7}
def t7 : Tree :=
 (.call 57 [.var 0,.var 1] 12
 (.call 50 [] 18
 (.ite (.not (.var 18))
 (.ret [.bool false])
 (.call 51 [.var 2,.var 3,.var 4,.var 5,.var 6] 19
 (.call 58 [.var 2,.var 3,.var 4,.var 5,.var 6] 20
 (.ite (.not (.eq (.var 19) (.var 20)))
 (.ret [.bool false])
 (.call 59 [.var 2,.var 3,.var 4,.var 5,.var 6,.var 7,.var 8,.var 9,.var 10,.var 11] 21
 (.call 60 [.var 2,.var 3,.var 4,.var 5,.var 6,.var 7,.var 8,.var 9,.var 10,.var 11] 22
 (.ite (.not (.beq (.var 21) (.var 22)))
 (.ret [.bool false])
 (.ite (.lt (.var 0) (.int 0))
 (.ite (.eq (.var 17) (.int 3))
 (.call 60 [.var 12,.var 13,.var 14,.var 15,.var 16,.nil,.nil,.nil,.nil,.int 0] 23
 (.ret [.var 23]))
 (.ret [.bool false]))
 (.ite (.lt (.int 12) (.var 0))
 (.ite (.eq (.var 17) (.int 3))
 (.call 60 [.var 12,.var 13,.var 14,.var 15,.var 16,.nil,.nil,.nil,.nil,.int 0] 23
 (.ret [.var 23]))
 (.ret [.bool false]))
 (.ite (.lt (.var 1) (.int 1))
 (.ite (.eq (.var 17) (.int 3))
 (.call 60 [.var 12,.var 13,.var 14,.var 15,.var 16,.nil,.nil,.nil,.nil,.int 0] 23
 (.ret [.var 23]))
 (.ret [.bool false]))
 (.ite (.lt (.int 4) (.var 1))
 (.ite (.eq (.var 17) (.int 3))
 (.call 60 [.var 12,.var 13,.var 14,.var 15,.var 16,.nil,.nil,.nil,.nil,.int 0] 23
 (.ret [.var 23]))
 (.ret [.bool false]))
 (.ite (.eq (.var 17) (.int 0))
 (.call 61 [.var 0,.var 1] 23
 (.call 60 [.var 12,.var 13,.var 14,.var 15,.var 16,.var 23,.var 24,.var 25,.var 26,.var 27] 28
 (.ret [.var 28])))
 (.ret [.bool false])))))))))))))))
theorem run7 : run z7 6000 [.code (Try.f7.body.getD .skip),.fin (bt z7 Try.f7.results.toList 50)] { fn:=7,tmps:=z7.sig.aM ++ List.replicate (Try.f7.ntmps - z7.sig.aM.length) (.v (.one .undef)),stk:=[],h:=z7.sig.h0,nx:=z7.sig.ins.length,known:=[]}=t7:=by kernel_rfl
theorem ok7 : cB Try.prog 7 d7.ct:=by
 refine aD (d:=d7) (Z:=z7) (Γ:=gam l7) (fn:=Try.f7) (c:=Try.f7.body.getD .skip) (bg tok mixed (all_cons ok57 (all_cons ok50 (all_cons ok51 (all_cons ok58 (all_cons ok59 (all_cons ok60 (all_cons ok61 all_nil))))))) bh) Try.func7 (by kernel_rfl) (by kernel_rfl) rfl run7 fun E hk hp=>?_
 obtain ⟨hk0,hk1,hk2,hk3,hk4,hk5,hk6,hk7,hk8,hk9,hk10,hk11,_⟩:=hk
 obtain ⟨x,e0⟩:=ok_int (d:=E 0) hk0
 obtain ⟨x2,e1⟩:=ok_int (d:=E 1) hk1
 obtain ⟨m,e2,e3,e4,e5,e6,b2,b3,b4,b5⟩:=cv (d0:=E 2) (d1:=E 3) (d2:=E 4) (d3:=E 5) (d4:=E 6) hk2 hk3 hk4 hk5 hk6
 obtain ⟨m2,e7,e8,e9,e10,e11,b7,b8,b9,b10⟩:=cv (d0:=E 7) (d1:=E 8) (d2:=E 9) (d3:=E 10) (d4:=E 11) hk7 hk8 hk9 hk10 hk11
 have el : aH E d7.sig.ins.length=[.i x,.i x2,au m.slots,af m.heads,af m.free,af m.locks,.i m.now,au m2.slots,af m2.heads,af m2.free,af m2.locks,.i m2.now]:=by
  show [E 0,E 1,E 2,E 3,E 4,E 5,E 6,E 7,E 8,E 9,E 10,E 11]=_
  rw [e0,e1,e2,e3,e4,e5,e6,e7,e8,e9,e10,e11]
 rw [el] at hp
 rw [el]
 rw [Env.bJ el]
 clear el e0 e1 e2 e3 e4 e5 e6 e7 e8 e9 e10 e11
 simp only [d7]
 unfold t7
 refine ai d57 ((dx x x2).1.cds ++ [.i (dx x x2).2]) rfl trivial (by simp only [nrm,xdn,reduceIte,Nat.reduceLT,Nat.reduceSub,Nat.reduceAdd,fn57]) ?_
 refine ai d50 [.b true] rfl trivial rfl (Fk (by simp only [nrm,xdn,reduceIte,Nat.reduceLT,Nat.reduceSub,Nat.reduceAdd,Bool.not_true]) ?_)
 refine ai d51 [.i (cP m)] rfl trivial (by simp only [nrm,xdn,reduceIte,Nat.reduceLT,Nat.reduceSub,Nat.reduceAdd,fn51']) ?_
 refine ai d58 [.i (cP m)] rfl trivial (by simp only [nrm,xdn,reduceIte,Nat.reduceLT,Nat.reduceSub,Nat.reduceAdd,fn58]) (Fk (by simp only [nrm,xdn,reduceIte,Nat.reduceLT,Nat.reduceSub,Nat.reduceAdd,decide_true,Bool.not_true,beq_self_eq_true]) ?_)
 refine ai d59 [.b (decide (m=m2))] rfl trivial (by simp only [nrm,xdn,reduceIte,Nat.reduceLT,Nat.reduceSub,Nat.reduceAdd,fn59]) ?_
 refine ai d60 [.b (decide (m=m2))] rfl trivial (by simp only [nrm,xdn,reduceIte,Nat.reduceLT,Nat.reduceSub,Nat.reduceAdd,fn60]) (Fk (by simp only [nrm,xdn,reduceIte,Nat.reduceLT,Nat.reduceSub,Nat.reduceAdd,beq_self_eq_true,Bool.not_true]) ?_)
 have hbad : (x < 0∨12 < x∨x2 < 1∨4 < x2)→dx x x2=(Mem.none,3):=fun h=>by unfold dx;rw [if_pos h]
 have bad:=fun h=>hbad h
 refine G0 (fun h1=>?_) (fun h1=>G0 (fun h2=>?_) (fun h2=>G0 (fun h3=>?_) (fun h3=>G0 (fun h4=>?_) (fun h4=>?_))))
 case refine_1 | refine_2 | refine_3 | refine_4 =>
  simp only [nrm,xdn,reduceIte,Nat.reduceLT,Nat.reduceSub,Nat.reduceAdd] at *
  rw [hbad (by omega)]
  refine Bf (by simp only [nrm,xdn,reduceIte,Nat.reduceLT,Nat.reduceSub,Nat.reduceAdd,Mem.cds,lca]) ?_
  refine ai d60 [.b true] rfl trivial ?_ (aj ?_)
  ·simp only [nrm,xdn,reduceIte,Nat.reduceLT,Nat.reduceSub,Nat.reduceAdd,Mem.cds,lca]
   exact G8
  ·simp only [nrm,xdn,reduceIte,Nat.reduceLT,Nat.reduceSub,Nat.reduceAdd]
 simp only [nrm,xdn,reduceIte,Nat.reduceLT,Nat.reduceSub,Nat.reduceAdd] at h1 h2 h3 h4
 have hok : dx x x2=((dx x x2).1,0):=by unfold dx;rw [if_neg (by omega)]
 rw [hok]
 generalize hq : (dx x x2).1=q at *
 refine Bf (by simp only [nrm,xdn,reduceIte,Nat.reduceLT,Nat.reduceSub,Nat.reduceAdd,Mem.cds,lca]) ?_
 refine ai d61 q.cds rfl ?_ (by simp only [nrm,xdn,reduceIte,Nat.reduceLT,Nat.reduceSub,Nat.reduceAdd,Mem.cds,lca,fn61,hq]) ?_
 ·simp only [nrm,xdn,reduceIte,Nat.reduceLT,Nat.reduceSub,Nat.reduceAdd]
  exact ⟨by simp only [nrm,xdn,reduceIte,Nat.reduceLT,Nat.reduceSub,Nat.reduceAdd];omega,by simp only [nrm,xdn,reduceIte,Nat.reduceLT,Nat.reduceSub,Nat.reduceAdd];omega,by simp only [nrm,xdn,reduceIte,Nat.reduceLT,Nat.reduceSub,Nat.reduceAdd];omega,by simp only [nrm,xdn,reduceIte,Nat.reduceLT,Nat.reduceSub,Nat.reduceAdd];omega⟩
 refine ai d60 [.b true] rfl trivial ?_ (aj ?_)
 ·simp only [nrm,xdn,reduceIte,Nat.reduceLT,Nat.reduceSub,Nat.reduceAdd,Mem.cds,lca,Hm]
 ·simp only [nrm,xdn,reduceIte,Nat.reduceLT,Nat.reduceSub,Nat.reduceAdd]
end Go.Proofs.Ytpmamacjepcdmaa
