import Derived.Test.YtpmamacjepcdmaaCChain4
namespace Go.Proofs.Ytpmamacjepcdmaa
open Go Go.Sy Go.RowKit
set_option linter.unusedSimpArgs false
set_option linter.unusedVariables false
theorem FN (l : List cI) : d75.fn [eM l,eM l]=[.b true]:=by
 simp only [d75,List.getD_cons_zero,List.getD_cons_succ,G6,decide_true]
theorem JE (l : List Int) : d39.fn [af l,af l]=[.b true]:=by
 simp only [d39,List.getD_cons_zero,List.getD_cons_succ,bY,decide_true]
def s11 : Sig:=⟨[.agg [.fz kS,.fz kI,.fz kI,.fz kI,.int .i64],.one (.int .i64)],[.one (.bool)]⟩
def d11 : DC:=⟨s11,fun _=>True,fun _=>[.b true]⟩
def l11 : List (Nat × Ct):=[(70,d70.ct),(71,d71.ct),(72,d72.ct),(73,d73.ct),(74,d74.ct),(58,d58.ct),(77,d77.ct),(39,d39.ct),(76,d76.ct),(75,d75.ct)]
def z11 : Cx:={ T:=ttA,C:=sigs l11,F:=[],hints:=[],sig:=s11}
def t11 : Tree :=
 (.call 70 [.var 0,.var 1,.var 2,.var 3,.var 4,.var 5] 6
 (.call 71 [.var 0,.var 1,.var 2,.var 3,.var 4] 8
 (.call 72 [.var 0,.var 1,.var 2,.var 3,.var 4] 10
 (.call 73 [] 11
 (.ite (.not (.var 11))
 (.ret [.bool false])
 (.call 74 [.var 0,.var 1,.var 2,.var 3,.var 4] 12
 (.ite (.not (.eq (.var 12) (.var 10)))
 (.ret [.bool false])
 (.ite (.not (.eq (.var 9) (.var 10)))
 (.ret [.bool false])
 (.ite (.not (.eq (.var 10) (.int 0)))
 (.ite (.not (.eq (.len (.var 8)) (.int 0)))
 (.ret [.bool false])
 (.call 58 [.var 0,.var 1,.var 2,.var 3,.var 4] 13
 (.ite (.eq (.var 13) (.int 0))
 (.ite (.lt (.var 5) (.int 0))
 (.ite (.eq (.var 7) (.int 5))
 (.ret [.eq (.len (.var 6)) (.int 0)])
 (.ret [.bool false]))
 (.ite (.le (.len (.var 1)) (.var 5))
 (.ite (.eq (.var 7) (.int 5))
 (.ret [.eq (.len (.var 6)) (.int 0)])
 (.ret [.bool false]))
 (.call 77 [.var 0,.var 1,.var 2,.var 3,.var 4,.var 5] 14
 (.ite (.not (.var 15))
 (.ite (.eq (.var 7) (.int 4))
 (.ret [.eq (.len (.var 6)) (.int 0)])
 (.ret [.bool false]))
 (.ite (.eq (.var 7) (.int 0))
 (.call 39 [.var 6,.var 14] 16
 (.ret [.var 16]))
 (.ret [.bool false]))))))
 (.ite (.eq (.var 7) (.var 13))
 (.ret [.eq (.len (.var 6)) (.int 0)])
 (.ret [.bool false])))))
 (.call 76 [.var 0,.var 1,.var 2,.var 3,.var 4] 13
 (.call 75 [.var 8,.var 13] 14
 (.ite (.not (.var 14))
 (.ret [.bool false])
 (.call 58 [.var 0,.var 1,.var 2,.var 3,.var 4] 15
 (.ite (.eq (.var 15) (.int 0))
 (.ite (.lt (.var 5) (.int 0))
 (.ite (.eq (.var 7) (.int 5))
 (.ret [.eq (.len (.var 6)) (.int 0)])
 (.ret [.bool false]))
 (.ite (.le (.len (.var 1)) (.var 5))
 (.ite (.eq (.var 7) (.int 5))
 (.ret [.eq (.len (.var 6)) (.int 0)])
 (.ret [.bool false]))
 (.call 77 [.var 0,.var 1,.var 2,.var 3,.var 4,.var 5] 16
 (.ite (.not (.var 17))
 (.ite (.eq (.var 7) (.int 4))
 (.ret [.eq (.len (.var 6)) (.int 0)])
 (.ret [.bool false]))
 (.ite (.eq (.var 7) (.int 0))
 (.call 39 [.var 6,.var 16] 18
 (.ret [.var 18]))
 (.ret [.bool false]))))))
 (.ite (.eq (.var 7) (.var 15))
 (.ret [.eq (.len (.var 6)) (.int 0)])
 (.ret [.bool false]))))))))))))))))
theorem run11 : run z11 6000 [.code (Try.f11.body.getD .skip),.fin (bt z11 Try.f11.results.toList 50)] { fn:=11,tmps:=z11.sig.aM ++ List.replicate (Try.f11.ntmps - z11.sig.aM.length) (.v (.one .undef)),stk:=[],h:=z11.sig.h0,nx:=z11.sig.ins.length,known:=[]}=t11:=by kernel_rfl
theorem ok11 : cB Try.prog 11 d11.ct:=by
 refine aD (d:=d11) (Z:=z11) (Γ:=gam l11) (fn:=Try.f11) (c:=Try.f11.body.getD .skip) (bg tok mixed (all_cons ok70 (all_cons ok71 (all_cons ok72 (all_cons ok73 (all_cons ok74 (all_cons ok58 (all_cons ok77 (all_cons ok39 (all_cons ok76 (all_cons ok75 all_nil)))))))))) bh) Try.func11 (by kernel_rfl) (by kernel_rfl) rfl run11 fun E hk hp=>?_
 obtain ⟨hk0,hk1,hk2,hk3,hk4,hk5,_⟩:=hk
 obtain ⟨m,e0,e1,e2,e3,e4,b0,b1,b2,b3⟩:=cv (d0:=E 0) (d1:=E 1) (d2:=E 2) (d3:=E 3) (d4:=E 4) hk0 hk1 hk2 hk3 hk4
 obtain ⟨x,e5⟩:=ok_int (d:=E 5) hk5
 have el : aH E d11.sig.ins.length=[au m.slots,af m.heads,af m.free,af m.locks,.i m.now,.i x]:=by
  show [E 0,E 1,E 2,E 3,E 4,E 5]=_
  rw [e0,e1,e2,e3,e4,e5]
 rw [el] at hp
 rw [el]
 rw [Env.bJ el]
 clear el e0 e1 e2 e3 e4 e5
 simp only [d11]
 unfold t11
 refine ai d70 [af (slotsOf m x).1,.i (slotsOf m x).2] rfl trivial (by simp only [nrm,xdn,reduceIte,Nat.reduceLT,Nat.reduceSub,Nat.reduceAdd,fn70]) ?_
 refine ai d71 [eM (jM m).1,.i (jM m).2] rfl trivial (by simp only [nrm,xdn,reduceIte,Nat.reduceLT,Nat.reduceSub,Nat.reduceAdd,fn71]) ?_
 refine ai d72 [.i (bU m)] rfl trivial (by simp only [nrm,xdn,reduceIte,Nat.reduceLT,Nat.reduceSub,Nat.reduceAdd,fn72]) ?_
 refine ai d73 [.b true] rfl trivial rfl ?_
 refine Fk (by simp only [nrm,xdn,reduceIte,Nat.reduceLT,Nat.reduceSub,Nat.reduceAdd,decide_true,Bool.not_true,not_true_eq_false,decide_false,beq_self_eq_true]) ?_
 refine ai d74 [.i (bU m)] rfl trivial (by simp only [nrm,xdn,reduceIte,Nat.reduceLT,Nat.reduceSub,Nat.reduceAdd,fn74]) ?_
 refine Fk (by simp only [nrm,xdn,reduceIte,Nat.reduceLT,Nat.reduceSub,Nat.reduceAdd,decide_true,Bool.not_true,not_true_eq_false,decide_false,beq_self_eq_true]) ?_
 have hf : (jM m).2=bU m:=by
  unfold jM
  split
  ·rfl
  ·rename_i h;exact (Classical.not_not.1 h).symm
 rw [hf]
 refine Fk (by simp only [nrm,xdn,reduceIte,Nat.reduceLT,Nat.reduceSub,Nat.reduceAdd,decide_true,Bool.not_true,not_true_eq_false,decide_false,beq_self_eq_true]) ?_
 refine G0 (fun h=>?_) (fun h=>?_)
 ·simp only [nrm,xdn,reduceIte,Nat.reduceLT,Nat.reduceSub,Nat.reduceAdd,Bool.not_eq_true'] at h
  have hf1 : (jM m).1=[]:=by unfold jM;rw [if_pos h]
  rw [hf1]
  refine Fk (by simp only [nrm,xdn,reduceIte,Nat.reduceLT,Nat.reduceSub,Nat.reduceAdd,iT];rfl) ?_
  refine ai d58 [.i (cP m)] rfl trivial (by simp only [nrm,xdn,reduceIte,Nat.reduceLT,Nat.reduceSub,Nat.reduceAdd,fn58]) (G0 (fun c=>?_) (fun c=>?_))
  ·simp only [nrm,xdn,reduceIte,Nat.reduceLT,Nat.reduceSub,Nat.reduceAdd] at c
   have hm:=(dT m).1 c
   refine G0 (fun a1=>?_) (fun a1=>G0 (fun a1=>?_) (fun a2=>?_))
   ·simp only [nrm,xdn,reduceIte,Nat.reduceLT,Nat.reduceSub,Nat.reduceAdd] at a1
    have hs : slotsOf m x=([],5):=by unfold slotsOf;rw [if_neg (by omega),if_pos (.inl a1)]
    rw [hs]
    refine Bf (by simp only [nrm,xdn,reduceIte,Nat.reduceLT,Nat.reduceSub,Nat.reduceAdd]) ?_
    refine aj ?_
    simp only [nrm,xdn,reduceIte,Nat.reduceLT,Nat.reduceSub,Nat.reduceAdd,aw]
    rfl
   ·simp only [nrm,xdn,reduceIte,Nat.reduceLT,Nat.reduceSub,Nat.reduceAdd,aw] at a1
    have hs : slotsOf m x=([],5):=by unfold slotsOf;rw [if_neg (by omega),if_pos (.inr a1)]
    rw [hs]
    refine Bf (by simp only [nrm,xdn,reduceIte,Nat.reduceLT,Nat.reduceSub,Nat.reduceAdd]) ?_
    refine aj ?_
    simp only [nrm,xdn,reduceIte,Nat.reduceLT,Nat.reduceSub,Nat.reduceAdd,aw]
    rfl
   simp only [nrm,xdn,reduceIte,Nat.reduceLT,Nat.reduceSub,Nat.reduceAdd,aw] at a1 a2
   have hs : slotsOf m x=bP m x:=by unfold slotsOf;rw [if_neg (by omega),if_neg (by omega)]
   rw [hs]
   refine ai d77 [af (Hn m x).1,.b (Hn m x).2] rfl ?_ (by simp only [nrm,xdn,reduceIte,Nat.reduceLT,Nat.reduceSub,Nat.reduceAdd,fn77]) ?_
   ·simp only [nrm,xdn,reduceIte,Nat.reduceLT,Nat.reduceSub,Nat.reduceAdd]
    exact pre77 hm (by omega) (by omega)
   have hq:=Jf m x
   cases hc : (Hn m x).2 with
   | false =>
    rw [hc] at hq
    have hr : bP m x=([],4):=by unfold bP;rw [hq];rfl
    rw [hr]
    refine Bf (by simp only [nrm,xdn,reduceIte,Nat.reduceLT,Nat.reduceSub,Nat.reduceAdd,Bool.not_false]) ?_
    refine Bf (by simp only [nrm,xdn,reduceIte,Nat.reduceLT,Nat.reduceSub,Nat.reduceAdd]) ?_
    refine aj ?_
    simp only [nrm,xdn,reduceIte,Nat.reduceLT,Nat.reduceSub,Nat.reduceAdd,aw]
    rfl
   | true =>
    rw [hc,if_pos rfl] at hq
    have hr : bP m x=((Hn m x).1,0):=by unfold bP;rw [hq]
    rw [hr]
    refine Fk (by simp only [nrm,xdn,reduceIte,Nat.reduceLT,Nat.reduceSub,Nat.reduceAdd,decide_true,Bool.not_true,not_true_eq_false,decide_false,beq_self_eq_true]) ?_
    refine Bf (by simp only [nrm,xdn,reduceIte,Nat.reduceLT,Nat.reduceSub,Nat.reduceAdd]) ?_
    refine ai d39 [.b true] rfl trivial (by simp only [nrm,xdn,reduceIte,Nat.reduceLT,Nat.reduceSub,Nat.reduceAdd,JE]) (aj ?_)
    simp only [nrm,xdn,reduceIte,Nat.reduceLT,Nat.reduceSub,Nat.reduceAdd]
  ·simp only [nrm,xdn,reduceIte,Nat.reduceLT,Nat.reduceSub,Nat.reduceAdd] at c
   have hs : slotsOf m x=([],cP m):=by unfold slotsOf;rw [if_pos (by omega)]
   rw [hs]
   refine Bf (by simp only [nrm,xdn,reduceIte,Nat.reduceLT,Nat.reduceSub,Nat.reduceAdd]) ?_
   refine aj ?_
   simp only [nrm,xdn,reduceIte,Nat.reduceLT,Nat.reduceSub,Nat.reduceAdd,aw]
   rfl
 ·simp only [nrm,xdn,reduceIte,Nat.reduceLT,Nat.reduceSub,Nat.reduceAdd,Bool.not_eq_false'] at h
  have hf1 : (jM m).1=aq m:=by unfold jM;rw [if_neg (by omega)]
  rw [hf1]
  refine ai d76 [eM (aq m)] rfl ?_ (by simp only [nrm,xdn,reduceIte,Nat.reduceLT,Nat.reduceSub,Nat.reduceAdd,fn76]) ?_
  ·simp only [nrm,xdn,reduceIte,Nat.reduceLT,Nat.reduceSub,Nat.reduceAdd,d76,mem_of,aA]
   exact h
  refine ai d75 [.b true] rfl trivial (by simp only [nrm,xdn,reduceIte,Nat.reduceLT,Nat.reduceSub,Nat.reduceAdd,FN]) ?_
  refine Fk (by simp only [nrm,xdn,reduceIte,Nat.reduceLT,Nat.reduceSub,Nat.reduceAdd,decide_true,Bool.not_true,not_true_eq_false,decide_false,beq_self_eq_true]) ?_
  refine ai d58 [.i (cP m)] rfl trivial (by simp only [nrm,xdn,reduceIte,Nat.reduceLT,Nat.reduceSub,Nat.reduceAdd,fn58]) (G0 (fun c=>?_) (fun c=>?_))
  ·simp only [nrm,xdn,reduceIte,Nat.reduceLT,Nat.reduceSub,Nat.reduceAdd] at c
   have hm:=(dT m).1 c
   refine G0 (fun a1=>?_) (fun a1=>G0 (fun a1=>?_) (fun a2=>?_))
   ·simp only [nrm,xdn,reduceIte,Nat.reduceLT,Nat.reduceSub,Nat.reduceAdd] at a1
    have hs : slotsOf m x=([],5):=by unfold slotsOf;rw [if_neg (by omega),if_pos (.inl a1)]
    rw [hs]
    refine Bf (by simp only [nrm,xdn,reduceIte,Nat.reduceLT,Nat.reduceSub,Nat.reduceAdd]) ?_
    refine aj ?_
    simp only [nrm,xdn,reduceIte,Nat.reduceLT,Nat.reduceSub,Nat.reduceAdd,aw]
    rfl
   ·simp only [nrm,xdn,reduceIte,Nat.reduceLT,Nat.reduceSub,Nat.reduceAdd,aw] at a1
    have hs : slotsOf m x=([],5):=by unfold slotsOf;rw [if_neg (by omega),if_pos (.inr a1)]
    rw [hs]
    refine Bf (by simp only [nrm,xdn,reduceIte,Nat.reduceLT,Nat.reduceSub,Nat.reduceAdd]) ?_
    refine aj ?_
    simp only [nrm,xdn,reduceIte,Nat.reduceLT,Nat.reduceSub,Nat.reduceAdd,aw]
    rfl
   simp only [nrm,xdn,reduceIte,Nat.reduceLT,Nat.reduceSub,Nat.reduceAdd,aw] at a1 a2
   have hs : slotsOf m x=bP m x:=by unfold slotsOf;rw [if_neg (by omega),if_neg (by omega)]
   rw [hs]
   refine ai d77 [af (Hn m x).1,.b (Hn m x).2] rfl ?_ (by simp only [nrm,xdn,reduceIte,Nat.reduceLT,Nat.reduceSub,Nat.reduceAdd,fn77]) ?_
   ·simp only [nrm,xdn,reduceIte,Nat.reduceLT,Nat.reduceSub,Nat.reduceAdd]
    exact pre77 hm (by omega) (by omega)
   have hq:=Jf m x
   cases hc : (Hn m x).2 with
   | false =>
    rw [hc] at hq
    have hr : bP m x=([],4):=by unfold bP;rw [hq];rfl
    rw [hr]
    refine Bf (by simp only [nrm,xdn,reduceIte,Nat.reduceLT,Nat.reduceSub,Nat.reduceAdd,Bool.not_false]) ?_
    refine Bf (by simp only [nrm,xdn,reduceIte,Nat.reduceLT,Nat.reduceSub,Nat.reduceAdd]) ?_
    refine aj ?_
    simp only [nrm,xdn,reduceIte,Nat.reduceLT,Nat.reduceSub,Nat.reduceAdd,aw]
    rfl
   | true =>
    rw [hc,if_pos rfl] at hq
    have hr : bP m x=((Hn m x).1,0):=by unfold bP;rw [hq]
    rw [hr]
    refine Fk (by simp only [nrm,xdn,reduceIte,Nat.reduceLT,Nat.reduceSub,Nat.reduceAdd,decide_true,Bool.not_true,not_true_eq_false,decide_false,beq_self_eq_true]) ?_
    refine Bf (by simp only [nrm,xdn,reduceIte,Nat.reduceLT,Nat.reduceSub,Nat.reduceAdd]) ?_
    refine ai d39 [.b true] rfl trivial (by simp only [nrm,xdn,reduceIte,Nat.reduceLT,Nat.reduceSub,Nat.reduceAdd,JE]) (aj ?_)
    simp only [nrm,xdn,reduceIte,Nat.reduceLT,Nat.reduceSub,Nat.reduceAdd]
  ·simp only [nrm,xdn,reduceIte,Nat.reduceLT,Nat.reduceSub,Nat.reduceAdd] at c
   have hs : slotsOf m x=([],cP m):=by unfold slotsOf;rw [if_pos (by omega)]
   rw [hs]
   refine Bf (by simp only [nrm,xdn,reduceIte,Nat.reduceLT,Nat.reduceSub,Nat.reduceAdd]) ?_
   refine aj ?_
   simp only [nrm,xdn,reduceIte,Nat.reduceLT,Nat.reduceSub,Nat.reduceAdd,aw]
   rfl
end Go.Proofs.Ytpmamacjepcdmaa
