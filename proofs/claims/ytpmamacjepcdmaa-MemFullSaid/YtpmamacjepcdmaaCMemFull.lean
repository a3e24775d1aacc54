import Derived.Test.YtpmamacjepcdmaaCMemLaws
import Derived.Test.YtpmamacjepcdmaaCFacts
namespace Go.Proofs.Ytpmamacjepcdmaa
open Go Go.Sy Go.RowKit
set_option linter.unusedSimpArgs false
set_option linter.unusedVariables false
theorem J9 {l : List Int} {n : Nat} (h : n < l.length) : (l.take (n + 1)).getD n 0=l.getD n 0:=by
 simp [List.getD_eq_getElem?_getD,List.getElem?_take]
def s6 : Sig:=⟨[.agg [.fz kS,.fz kI,.fz kI,.fz kI,.int .i64],.agg [.int .i64,.int .i64],.one (.int .i64)],[.one (.bool)]⟩
def d6 : DC:=⟨s6,fun _=>True,fun _=>[.b true]⟩
def l6 : List (Nat × Ct):=[(50,d50.ct),(51,d51.ct),(52,d52.ct),(53,d53.ct),(54,d54.ct)]
noncomputable def z6 : Cx:={ T:=ttA,C:=sigs l6,F:=[(55,Try.f55),(163,Try.f163),(56,Try.f56)],hints:=[⟨6,5,false,[(8,.lt)],[(0,0,.fz kS),(0,1,.fz kI),(0,2,.fz kI),(0,3,.fz kI),(0,4,.lt)],[],[],0,0,false⟩,⟨163,2,false,[(8,.lt)],[],[],[],0,0,false⟩],sig:=s6}
def t6 : Tree :=
 (.call 50 [] 8
 (.ite (.not (.var 8))
 (.call 50 [] 9
 (.ret [.var 9]))
 (.call 51 [.var 0,.var 1,.var 2,.var 3,.var 4] 9
 (.ite (.not (.eq (.var 9) (.int 0)))
 (.call 50 [] 10
 (.ret [.var 10]))
 (.call 52 [.var 5,.var 6] 10
 (.ite (.not (.eq (.var 10) (.int 0)))
 (.call 50 [] 11
 (.ret [.var 11]))
 (.ite (.lt (.var 7) (.int 0))
 (.call 50 [] 11
 (.ret [.var 11]))
 (.ite (.lt (.int 2000000) (.var 7))
 (.call 50 [] 11
 (.ret [.var 11]))
 (.call 53 [.var 2] 11
 (.need (.fit (.sub (.len (.var 11)) (.int 1)))
 (.loop 12 [.int .i64,.sl 48 [.int .i64,.int .i64,.int .i64,.int .i64,.bool,.int .i64],.sl 8 [.int .i64],.sl 8 [.int .i64],.sl 8 [.int .i64],.int .i64] [.sub (.len (.var 11)) (.int 1),.var 0,.var 1,.var 2,.var 3,.var 4]
 (.ite (.le (.int 0) (.var 13))
 (.call 54 [.var 14,.var 15,.var 16,.var 17,.var 18,.var 5,.var 6,.var 7] 19
 (.ite (.not (.eq (.var 25) (.int 0)))
 (.ret [.bool false])
 (.need (.lt (.var 13) (.len (.var 11)))
 (.ite (.not (.eq (.var 24) (.cell (.var 11) (.var 13) 0)))
 (.ret [.bool false])
 (.ite (.not (.eq (.len (.var 21)) (.var 13)))
 (.ret [.bool false])
 (.need (.fit (.sub (.var 13) (.int 1)))
 (.back 12 [.sub (.var 13) (.int 1),.var 19,.var 20,.var 21,.var 22,.var 23])))))))
 (.call 54 [.var 14,.var 15,.var 16,.var 17,.var 18,.var 5,.var 6,.var 7] 19
 (.ite (.eq (.var 25) (.int 7))
 (.loop 26 [.int .i64] [.int 0]
 (.ite (.lt (.var 27) (.len (.var 14)))
 (.need (.le (.int 0) (.var 27))
 (.ite (.eq (.cell (.var 14) (.var 27) 0) (.int 0))
 (.ret [.not (.le (.int 0) (.var 27))])
 (.need (.fit (.add (.var 27) (.int 1)))
 (.back 26 [.add (.var 27) (.int 1)]))))
 (.ret [.bool true])))
 (.ret [.bool false])))))))))))))))
theorem run6 : run z6 6000 [.code (Try.f6.body.getD .skip),.fin (bt z6 Try.f6.results.toList 50)] { fn:=6,tmps:=z6.sig.aM ++ List.replicate (Try.f6.ntmps - z6.sig.aM.length) (.v (.one .undef)),stk:=[],h:=z6.sig.h0,nx:=z6.sig.ins.length,known:=[]}=t6:=by kernel_rfl
theorem ok6 : cB Try.prog 6 d6.ct:=by
 refine aD (d:=d6) (Z:=z6) (Γ:=gam l6) (fn:=Try.f6) (c:=Try.f6.body.getD .skip) (bg tok mixed (all_cons ok50 (all_cons ok51 (all_cons ok52 (all_cons ok53 (all_cons ok54 all_nil))))) (dX (c:=Try.f55.body.getD .skip) Try.func55 (by kernel_rfl) (by kernel_rfl) (dX (c:=Try.f163.body.getD .skip) Try.func163 (by kernel_rfl) (by kernel_rfl) (dX (c:=Try.f56.body.getD .skip) Try.func56 (by kernel_rfl) (by kernel_rfl) bh)))) Try.func6 (by kernel_rfl) (by kernel_rfl) rfl run6 fun E hk hp=>?_
 obtain ⟨hk0,hk1,hk2,hk3,hk4,hk5,hk6,hk7,_⟩:=hk
 obtain ⟨m,e0,e1,e2,e3,e4,b0,b1,b2,b3⟩:=cv (d0:=E 0) (d1:=E 1) (d2:=E 2) (d3:=E 3) (d4:=E 4) hk0 hk1 hk2 hk3 hk4
 obtain ⟨k,e5,e6⟩:=vM (d0:=E 5) (d1:=E 6) hk5 hk6
 obtain ⟨x,e7⟩:=ok_int (d:=E 7) hk7
 have el : aH E d6.sig.ins.length=[au m.slots,af m.heads,af m.free,af m.locks,.i m.now,.i k.a,.i k.b,.i x]:=by
  show [E 0,E 1,E 2,E 3,E 4,E 5,E 6,E 7]=_
  rw [e0,e1,e2,e3,e4,e5,e6,e7]
 rw [el] at hp
 rw [el]
 rw [Env.bJ el]
 clear el e0 e1 e2 e3 e4 e5 e6 e7
 simp only [d6]
 unfold t6
 have done : ∀ (lo : Nat) (E' : Env) (J : JJ),(Tree.call 50 [] lo (.ret [.var lo])).den (gam l6) (fun outs=>outs=[.b true]) E' J:=fun lo E' J=>by
  refine ai d50 [.b true] rfl trivial rfl (aj ?_)
  simp only [nrm,xdn,reduceIte,Nat.reduceLT,Nat.reduceSub,Nat.reduceAdd]
 refine ai d50 [.b true] rfl trivial rfl (G0 (fun h=>absurd h (by simp only [nrm,xdn,reduceIte,Nat.reduceLT,Nat.reduceSub,Nat.reduceAdd];decide)) (fun _=>?_))
 refine ai d51 [.i (cP m)] rfl trivial (by simp only [nrm,xdn,reduceIte,Nat.reduceLT,Nat.reduceSub,Nat.reduceAdd,d51,mem_of,aA]) (G0 (fun h=>done _ _ _) (fun h=>?_))
 simp only [nrm,xdn,reduceIte,Nat.reduceLT,Nat.reduceSub,Nat.reduceAdd,Bool.not_eq_false'] at h
 have hm:=(dT m).1 h
 refine ai d52 [.i (checkKey k)] rfl trivial (by simp only [nrm,xdn,reduceIte,Nat.reduceLT,Nat.reduceSub,Nat.reduceAdd,d52,jK,eZ]) (G0 (fun h=>done _ _ _) (fun h=>?_))
 simp only [nrm,xdn,reduceIte,Nat.reduceLT,Nat.reduceSub,Nat.reduceAdd,Bool.not_eq_false'] at h
 have hk:=(gA k).1 h
 refine G0 (fun h=>done _ _ _) (fun h0=>G0 (fun h=>done _ _ _) (fun h1=>?_))
 simp only [nrm,xdn,reduceIte,Nat.reduceLT,Nat.reduceSub,Nat.reduceAdd] at h0 h1
 refine ai d53 [af m.free] rfl trivial (by simp only [nrm,xdn,reduceIte,Nat.reduceLT,Nat.reduceSub,Nat.reduceAdd,d53,bY]) ?_
 have hnf:=hm.nf
 refine G1 (by simp only [nrm,xdn,reduceIte,Nat.reduceLT,Nat.reduceSub,Nat.reduceAdd,aw];omega) ?_
 refine bO (fun ds=>∃ (q : Mem) (i : Int),ds=.i i :: q.cds∧bB q∧-1≤i∧i < m.free.length∧q.free=m.free.take (i + 1).toNat) (fun ds=>((ds.getD 0 .u).int + 1).toNat)
  ⟨m,m.free.length - 1,?_,hm,by omega,by omega,?_⟩ ?_
 ·simp only [nrm,xdn,reduceIte,Nat.reduceLT,Nat.reduceSub,Nat.reduceAdd,aw,Mem.cds]
 ·rw [List.take_of_length_le (by omega)]
 rintro ds - ⟨q,i,rfl,hq,hi0,hi1,hfree⟩
 have hlen : (q.free.length : Int)=i + 1:=by
  rw [hfree,List.length_take];omega
 refine G0 (fun hlt=>?_) (fun hge=>?_)
 ·simp only [nrm,xdn,reduceIte,Nat.reduceLT,Nat.reduceSub,Nat.reduceAdd] at hlt
  have hn : q.free.length≠0:=by omega
  have ht:=J8 hq hn hk (show 0≤x by omega) (show x≤2000000 by omega)
  have hla : bc q=m.free.getD i.toNat 0:=by
   unfold bc
   rw [show q.free.length - 1=i.toNat by omega,hfree,show (i + 1).toNat=i.toNat + 1 by omega]
   exact J9 (by omega)
  refine ai d54 ((cm q (bc q).toNat (cp k x) (q.free.take (q.free.length - 1))).cds ++ [.i (bc q),.i 0]) rfl trivial ?_ ?_
  ·simp only [nrm,xdn,reduceIte,Nat.reduceLT,Nat.reduceSub,Nat.reduceAdd,Mem.cds,lca,fn54,eZ,ht]
  refine G0 (fun h=>absurd h (by simp only [nrm,xdn,reduceIte,Nat.reduceLT,Nat.reduceSub,Nat.reduceAdd,Mem.cds,lca];decide)) (fun _=>?_)
  refine lv (by simp only [nrm,xdn,reduceIte,Nat.reduceLT,Nat.reduceSub,Nat.reduceAdd,aw];omega) ?_
  refine G0 (fun h=>absurd h ?_) (fun _=>G0 (fun h=>absurd h ?_) (fun _=>?_))
  ·simp only [nrm,xdn,reduceIte,Nat.reduceLT,Nat.reduceSub,Nat.reduceAdd,Mem.cds,lca,aG,hla];simp
  ·simp only [nrm,xdn,reduceIte,Nat.reduceLT,Nat.reduceSub,Nat.reduceAdd,Mem.cds,lca,cm,aw,List.length_take]
   simp;omega
  refine G1 (by simp only [nrm,xdn,reduceIte,Nat.reduceLT,Nat.reduceSub,Nat.reduceAdd];omega) (aV ⟨⟨_,i - 1,?_,Ai hq hn hk (show 0≤x by omega) (show x≤2000000 by omega),by omega,by omega,?_⟩,?_⟩)
  ·simp only [nrm,xdn,reduceIte,Nat.reduceLT,Nat.reduceSub,Nat.reduceAdd,Mem.cds,lca]
  ·simp only [cm]
   rw [hfree,List.take_take,List.length_take]
   congr 1
   omega
  ·simp only [nrm,xdn,reduceIte,Nat.reduceLT,Nat.reduceSub,Nat.reduceAdd,Mem.cds,lca]
   omega
 ·simp only [nrm,xdn,reduceIte,Nat.reduceLT,Nat.reduceSub,Nat.reduceAdd] at hge
  have hn : q.free.length=0:=by omega
  have ht:=FJ hq hn hk (show 0≤x by omega) (show x≤2000000 by omega)
  refine ai d54 (Mem.none.cds ++ [.i 0,.i 7]) rfl trivial ?_ ?_
  ·simp only [nrm,xdn,reduceIte,Nat.reduceLT,Nat.reduceSub,Nat.reduceAdd,Mem.cds,lca,fn54,eZ,ht]
  refine G0 (fun _=>?_) (fun h=>absurd h (by simp only [nrm,xdn,reduceIte,Nat.reduceLT,Nat.reduceSub,Nat.reduceAdd,Mem.cds,lca];decide))
  have hz : ∀ j,j < q.slots.length→(q.slots.getD j default).refs≠0:=fun j hj hr=>by
   have:=hq.leak j hj hr
   rw [List.length_eq_zero_iff.1 hn] at this
   cases this
  refine bO (fun ds=>∃ j : Nat,ds=[.i j]∧j≤q.slots.length) (fun ds=>q.slots.length - (ds.getD 0 .u).int.toNat) ⟨0,rfl,by omega⟩ ?_
  rintro ds - ⟨j,rfl,hj⟩
  refine G0 (fun hlt=>?_) (fun _=>aj (by simp only [nrm,xdn,reduceIte,Nat.reduceLT,Nat.reduceSub,Nat.reduceAdd]))
  simp only [nrm,xdn,reduceIte,Nat.reduceLT,Nat.reduceSub,Nat.reduceAdd,Mem.cds,lca,aN] at hlt
  refine eh (by simp only [nrm,xdn,reduceIte,Nat.reduceLT,Nat.reduceSub,Nat.reduceAdd,Mem.cds,lca];omega) (G0 (fun h=>absurd h ?_) (fun _=>?_))
  ·simp only [nrm,xdn,reduceIte,Nat.reduceLT,Nat.reduceSub,Nat.reduceAdd,Mem.cds,lca,cX,Int.toNat_natCast]
   exact hz j (by omega)
  refine G1 (by simp only [nrm,xdn,reduceIte,Nat.reduceLT,Nat.reduceSub,Nat.reduceAdd,Mem.cds,lca];have:=hq.ns;omega) (aV ⟨⟨j + 1,?_,by omega⟩,?_⟩)
  ·simp only [nrm,xdn,reduceIte,Nat.reduceLT,Nat.reduceSub,Nat.reduceAdd,Mem.cds,lca];rfl
  ·simp only [nrm,xdn,reduceIte,Nat.reduceLT,Nat.reduceSub,Nat.reduceAdd,Mem.cds,lca];omega
end Go.Proofs.Ytpmamacjepcdmaa
