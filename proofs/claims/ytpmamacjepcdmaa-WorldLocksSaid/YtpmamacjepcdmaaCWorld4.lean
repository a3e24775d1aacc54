import Derived.Test.YtpmamacjepcdmaaCStep
import Derived.Test.YtpmamacjepcdmaaCWorldChk
namespace Go.Proofs.Ytpmamacjepcdmaa
open Go Go.Sy Go.RowKit
set_option linter.unusedSimpArgs false
set_option linter.unusedVariables false
theorem vA {l : List Int} {j : Nat} (h : j < l.length) : l.take (j + 1)=l.take j ++ [l.getD j 0]:=by
 rw [List.take_succ_eq_append_getElem h,List.getD_eq_getElem?_getD,List.getElem?_eq_getElem h,Option.getD_some]
def s71 : Sig:=⟨[.agg [.fz kS,.fz kI,.fz kI,.fz kI,.int .i64]],[.one (.own 78 kW),.one (.int .i64)]⟩
def d71 : DC:=⟨s71,fun _=>True,fun l=>[fK (iV (Mem.of l)).1,.i (iV (Mem.of l)).2]⟩
theorem fn71 (m : Mem) : d71.fn [ai m.slots,aa m.heads,aa m.free,aa m.kM,.i m.now]=[fK (iV m).1,.i (iV m).2]:=by simp only [d71,mem_of,aq]
def l71 : List (Nat × Ct):=[(74,d74.ct),(168,d168.ct)]
def z71 : Cx:={ T:=ttA,C:=sigs l71,F:=[],hints:=[⟨71,6,false,[(19,.lt),(5,.own 78 kW)],[],[],[],0⟩,⟨71,10,false,[(30,.lt),(5,.own 78 kW)],[],[],[],0⟩],sig:=s71}
def t71 : Tree :=
 (.call 74 [.var 0,.var 1,.var 2,.var 3,.var 4] 5
 (.ite (.not (.eq (.var 5) (.int 0)))
 (.ret [.nil,.var 5])
 (.loop 6 [.sl 32 [.int .i64,.int .i64,.int .i64,.int .i64],.int .i64] [.nil,.int 0]
 (.ite (.lt (.var 8) (.len (.var 1)))
 (.call 168 [.var 0,.var 1,.var 2,.var 3,.var 4,.var 8] 9
 (.loop 11 [.sl 32 [.int .i64,.int .i64,.int .i64,.int .i64],.int .i64] [.var 7,.int 0]
 (.ite (.lt (.var 13) (.len (.var 9)))
 (.need (.le (.int 0) (.var 13))
 (.need (.le (.int 0) (.cell (.var 9) (.var 13) 0))
 (.need (.lt (.cell (.var 9) (.var 13) 0) (.len (.var 0)))
 (.need (.le (.add (.len (.var 12)) (.int 1)) (.int 4398046511104))
 (.need (.fit (.add (.var 13) (.int 1)))
 (.back 11 [.app (.var 12) (.cons (.cell (.var 0) (.cell (.var 9) (.var 13) 0) 1) (.cons (.cell (.var 0) (.cell (.var 9) (.var 13) 0) 2) (.cons (.cell (.var 9) (.var 13) 0) (.cons (.cell (.var 0) (.cell (.var 9) (.var 13) 0) 3) .row0)))),.add (.var 13) (.int 1)]))))))
 (.need (.fit (.add (.var 8) (.int 1)))
 (.back 6 [.var 12,.add (.var 8) (.int 1)])))))
 (.ret [.var 7,.int 0])))))
theorem run71 : run z71 6000 [.code (Try.f71.body.getD .skip),.fin (aP z71 Try.f71.results.toList 50)] { fn:=71,tmps:=z71.sig.aE ++ List.replicate (Try.f71.ntmps - z71.sig.aE.length) (.v (.one .undef)),stk:=[],h:=z71.sig.h0,nx:=z71.sig.ins.length,known:=[]}=t71:=by kernel_rfl
theorem ok71 : bJ Try.prog 71 d71.ct:=by
 refine ax (d:=d71) (Z:=z71) (Γ:=gam l71) (fn:=Try.f71) (c:=Try.f71.body.getD .skip) (aJ tok mixed (all_cons ok74 (all_cons ok168 all_nil)) aK) Try.func71 (by kernel_rfl) (by kernel_rfl) rfl run71 fun E hk hp=>?_
 obtain ⟨hk0,hk1,hk2,hk3,hk4,_⟩:=hk
 obtain ⟨m,e0,e1,e2,e3,e4,b0,b1,b2,b3⟩:=bp (d0:=E 0) (d1:=E 1) (d2:=E 2) (d3:=E 3) (d4:=E 4) hk0 hk1 hk2 hk3 hk4
 have el : aG E d71.sig.ins.length=[ai m.slots,aa m.heads,aa m.free,aa m.kM,.i m.now]:=by
  show [E 0,E 1,E 2,E 3,E 4]=_
  rw [e0,e1,e2,e3,e4]
 rw [el] at hp
 rw [el]
 rw [Env.aU el]
 clear el e0 e1 e2 e3 e4
 rw [fn71]
 unfold iV
 unfold t71
 refine ah d74 [.i (cp m)] rfl trivial (by simp only [nrm,xdn,reduceIte,Nat.reduceLT,Nat.reduceSub,Nat.reduceAdd,fn74]) (ae (fun h=>ag ?_) (fun h=>?_))
 ·simp only [nrm,xdn,reduceIte,Nat.reduceLT,Nat.reduceSub,Nat.reduceAdd,Bool.not_eq_true'] at h ⊢
  rw [if_pos h];rfl
 simp only [nrm,xdn,reduceIte,Nat.reduceLT,Nat.reduceSub,Nat.reduceAdd,Bool.not_eq_false'] at h
 rw [if_neg (by omega)]
 have hm:=nO (by omega : cp m=0)
 have hns:=hm.ns
 have hnh:=hm.nh4
 refine bD (fun ds=>∃ (b : Nat) (acc : List iq),ds=[fK acc,.i b]∧b≤m.heads.length∧acc.length≤b * 12∧u7 m=kl m (m.heads.length - b) b acc) (fun ds=>m.heads.length - (ds.getD 1 .u).int.toNat) ⟨0,[],rfl,by omega,by simp,rfl⟩ ?_
 rintro ds - ⟨b,acc,rfl,hb,hkl,ht⟩
 refine ae (fun hlt=>?_) (fun hge=>ag ?_)
 ·simp only [nrm,xdn,reduceIte,Nat.reduceLT,Nat.reduceSub,Nat.reduceAdd,aj] at hlt
  have e1 : m.heads.length - b=m.heads.length - (b + 1) + 1:=by omega
  rw [e1] at ht
  refine ah d168 [aa (cw m b).1,.i (cw m b).2] rfl ?_ (by simp only [nrm,xdn,reduceIte,Nat.reduceLT,Nat.reduceSub,Nat.reduceAdd,fn168]) ?_
  ·simp only [nrm,xdn,reduceIte,Nat.reduceLT,Nat.reduceSub,Nat.reduceAdd]
   exact pre168 hm (by omega) (by omega)
  obtain ⟨hl,hlm⟩:=um hm b
  rw [kl] at ht
  generalize (cw m b).1=l at *
  refine bD (fun ds=>∃ (j : Nat) (acc' : List iq),ds=[fK acc',.i j]∧j≤l.length∧acc'=acc ++ (l.take j).map (rh m)) (fun ds=>l.length - (ds.getD 1 .u).int.toNat) ⟨0,acc,?_,by omega,by simp⟩ ?_
  ·simp only [nrm,xdn,reduceIte,Nat.reduceLT,Nat.reduceSub,Nat.reduceAdd];rfl
  rintro ds - ⟨j,acc',rfl,hj,hs⟩
  have hal : acc'.length=acc.length + j:=by rw [hs];simp;omega
  refine ae (fun hlt'=>?_) (fun hge'=>?_)
  ·simp only [nrm,xdn,reduceIte,Nat.reduceLT,Nat.reduceSub,Nat.reduceAdd,aj] at hlt'
   have ha:=hlm (l.getD j 0) (mc (by omega))
   have hraw : ((aa l).rows.getD j []).getD 0 .u=.i (l.getD j 0):=cL (by omega)
   have hnx : acc ++ (l.take (j + 1)).map (rh m)=acc' ++ [rh m (l.getD j 0)]:=by
    rw [vA (by omega),hs,List.map_append,← List.append_assoc];rfl
   generalize hag : l.getD j 0=a at *
   have hk1 : ((ai m.slots).rows.getD a.toNat []).getD 1 .u=.i (msl m a.toNat).k.a:=gl (by omega)
   have hk2 : ((ai m.slots).rows.getD a.toNat []).getD 2 .u=.i (msl m a.toNat).k.b:=gk (by omega)
   have hk3 : ((ai m.slots).rows.getD a.toNat []).getD 3 .u=.i (msl m a.toNat).till:=wZ (by omega)
   refine af (by simp only [nrm,xdn,reduceIte,Nat.reduceLT,Nat.reduceSub,Nat.reduceAdd];omega) (af (by simp only [nrm,xdn,reduceIte,Nat.reduceLT,Nat.reduceSub,Nat.reduceAdd,Int.toNat_natCast,hraw];omega) (af (by simp only [nrm,xdn,reduceIte,Nat.reduceLT,Nat.reduceSub,Nat.reduceAdd,Int.toNat_natCast,hraw,aw];omega) (cm (by simp only [nrm,xdn,reduceIte,Nat.reduceLT,Nat.reduceSub,Nat.reduceAdd,mJ];omega) (aH (by simp only [nrm,xdn,reduceIte,Nat.reduceLT,Nat.reduceSub,Nat.reduceAdd];omega) (bx ⟨⟨j + 1,_,?_,by omega,hnx.symm⟩,?_⟩)))))
   ·simp only [nrm,xdn,reduceIte,Nat.reduceLT,Nat.reduceSub,Nat.reduceAdd,Int.toNat_natCast,hraw,hk1,hk2,hk3,CD.row,List.headD_cons,xZ]
    rfl
   ·simp only [nrm,xdn,reduceIte,Nat.reduceLT,Nat.reduceSub,Nat.reduceAdd];omega
  ·simp only [nrm,xdn,reduceIte,Nat.reduceLT,Nat.reduceSub,Nat.reduceAdd,aj] at hge'
   have hjl : j=l.length:=by omega
   subst hjl
   rw [List.take_length] at hs
   refine aH (by simp only [nrm,xdn,reduceIte,Nat.reduceLT,Nat.reduceSub,Nat.reduceAdd];omega) (gf (by decide) ⟨⟨b + 1,acc',?_,by omega,by omega,?_⟩,?_⟩)
   ·simp only [nrm,xdn,reduceIte,Nat.reduceLT,Nat.reduceSub,Nat.reduceAdd];rfl
   ·rw [ht,hs]
   ·simp only [nrm,xdn,reduceIte,Nat.reduceLT,Nat.reduceSub,Nat.reduceAdd];omega
 ·simp only [nrm,xdn,reduceIte,Nat.reduceLT,Nat.reduceSub,Nat.reduceAdd,aj] at hge ⊢
  rw [show m.heads.length - b=0 from by omega] at ht
  rw [ht];rfl
def hM0 : Mem:=⟨[default,default],[-1,-2],[1,0],[-1,-1],0⟩
def hM1 : Mem:=⟨[⟨1,⟨1,2⟩,5,false,0⟩,default],[-1,-2],[1],[-1,-1],0⟩
def hM2 : Mem:=⟨[⟨1,⟨1,2⟩,5,true,-2⟩,default],[-1,1],[1],[-1,-1],0⟩
def hM3 : Mem:=⟨[⟨1,⟨1,2⟩,5,true,-2⟩,default],[-1,-2],[1],[-1,-1],0⟩
theorem h0 : bZ 2 2=(hM0,0):=by decide +kernel
theorem h1 : taken hM0 ⟨1,2⟩ 5=(hM1,0,0):=by decide +kernel
theorem h2 : linked hM1 0=(hM2,0):=by decide +kernel
theorem h3 : iV hM2=([⟨⟨1,2⟩,0,5⟩],0):=by decide +kernel
theorem h4 : yv hM2 ⟨1,2⟩=(hM3,0,0):=by decide +kernel
theorem h5 : slotsOf hM3 1=([],0):=by decide +kernel
end Go.Proofs.Ytpmamacjepcdmaa

namespace Go.Proofs.Ytpmamacjepcdmaa
open Go Go.Sy Go.RowKit
set_option linter.unusedSimpArgs false
set_option linter.unusedVariables false
structure WIn (w : Wrd) : Prop where
 m : aO w.m
 t : ∀ t∈w.ts,t.own=true∧t.held.length≤10000∧(t.busy=true→bL w.m t.f)
def cJ (w : Wrd) (x : Pik) : Wrd × Int :=
 if x.tick=true then (if w.m.now=1000000 then (w,7) else (⟨{ w.m with now:=w.m.now + 1},w.ts⟩,0))
 else if x.task < 0∨(w.ts.length : Int)≤x.task then (w,5)
 else if x.step=true then jo w x.task
 else gy w x.task x.c
def s171 : Sig:=⟨[.ptr [.own 52 kS,.own 3 kI,.own 3 kI,.own 3 kI,.int .i64,.own 129 kTo],.agg [.int .i64,.bool,.bool,.int .i64,.int .i64,.int .i64,.int .i64,.int .i64,.int .i64]],[.one (.int .i64)]⟩
def d171 : DC:=⟨s171,fun l=>WIn (Wrd.of l),fun l=>(cJ (Wrd.of l) (Pik.of (l.drop 6))).1.cds ++ [.i (cJ (Wrd.of l) (Pik.of (l.drop 6))).2]⟩
theorem eW (a : Int) (b c : Bool) (d e f g h i : Int) (l : List CD) : Pik.of (.i a :: .b b :: .b c :: .i d :: .i e :: .i f :: .i g :: .i h :: .i i :: l)=⟨a,b,c,⟨d,⟨e,f⟩,g,h,i⟩⟩:=rfl
def l171 : List (Nat × Ct):=[(208,d208.ct),(209,d209.ct)]
def z171 : Cx:={ T:=ttA,C:=sigs l171,F:=[],hints:=[],sig:=s171}
def t171 : Tree :=
 (.ite (.var 8)
 (.ite (.eq (.var 4) (.int 1000000))
 (.need (.clean (.var 5) 15)
 (.ret [.var 0,.var 1,.var 2,.var 3,.var 4,.var 5,.int 7]))
 (.need (.fit (.add (.var 4) (.int 1)))
 (.need (.clean (.var 5) 15)
 (.ret [.var 0,.var 1,.var 2,.var 3,.add (.var 4) (.int 1),.var 5,.int 0]))))
 (.ite (.lt (.var 6) (.int 0))
 (.need (.clean (.var 5) 15)
 (.ret [.var 0,.var 1,.var 2,.var 3,.var 4,.var 5,.int 5]))
 (.ite (.le (.len (.var 5)) (.var 6))
 (.need (.clean (.var 5) 15)
 (.ret [.var 0,.var 1,.var 2,.var 3,.var 4,.var 5,.int 5]))
 (.ite (.var 7)
 (.need (.clean (.var 5) 15)
 (.call 208 [.var 0,.var 1,.var 2,.var 3,.var 4,.var 5,.var 6] 15
 (.need (.clean (.var 20) 15)
 (.ret [.var 15,.var 16,.var 17,.var 18,.var 19,.var 20,.var 21]))))
 (.need (.clean (.var 5) 15)
 (.call 209 [.var 0,.var 1,.var 2,.var 3,.var 4,.var 5,.var 6,.var 9,.var 10,.var 11,.var 12,.var 13,.var 14] 15
 (.need (.clean (.var 20) 15)
 (.ret [.var 15,.var 16,.var 17,.var 18,.var 19,.var 20,.var 21]))))))))
theorem run171 : run z171 6000 [.code (Try.f171.body.getD .skip),.fin (aP z171 Try.f171.results.toList 50)] { fn:=171,tmps:=z171.sig.aE ++ List.replicate (Try.f171.ntmps - z171.sig.aE.length) (.v (.one .undef)),stk:=[],h:=z171.sig.h0,nx:=z171.sig.ins.length,known:=[]}=t171:=by kernel_rfl
theorem ok171 : bJ Try.prog 171 d171.ct:=by
 refine ax (d:=d171) (Z:=z171) (Γ:=gam l171) (fn:=Try.f171) (c:=Try.f171.body.getD .skip) (aJ tok mixed (all_cons ok208 (all_cons ok209 all_nil)) aK) Try.func171 (by kernel_rfl) (by kernel_rfl) rfl run171 fun E hk hp=>?_
 obtain ⟨hk0,hk1,hk2,hk3,hk4,hk5,hk6,hk7,hk8,hk9,hk10,hk11,hk12,hk13,hk14,_⟩:=hk
 obtain ⟨m,e0,e1,e2,e3,e4,b0,b1,b2,b3⟩:=bp (d0:=E 0) (d1:=E 1) (d2:=E 2) (d3:=E 3) (d4:=E 4) hk0 hk1 hk2 hk3 hk4
 obtain ⟨ts,e5,hts,b5⟩:=mB (d:=E 5) hk5
 have b5 : ts.length * 160≤140737488355328:=b5
 obtain ⟨x,e6,e7,e8,e9,e10,e11,e12,e13,e14⟩:=lS (d0:=E 6) (d1:=E 7) (d2:=E 8) (d3:=E 9) (d4:=E 10) (d5:=E 11) (d6:=E 12) (d7:=E 13) (d8:=E 14) hk6 hk7 hk8 hk9 hk10 hk11 hk12 hk13 hk14
 have el : aG E d171.sig.ins.length=[ai m.slots,aa m.heads,aa m.free,aa m.kM,.i m.now,ar ts,.i x.task,.b x.step,.b x.tick,.i x.c.kind,.i x.c.k.a,.i x.c.k.b,.i x.c.time,.i x.c.bucket,.i x.c.slot]:=by
  show [E 0,E 1,E 2,E 3,E 4,E 5,E 6,E 7,E 8,E 9,E 10,E 11,E 12,E 13,E 14]=_
  rw [e0,e1,e2,e3,e4,e5,e6,e7,e8,e9,e10,e11,e12,e13,e14]
 rw [el] at hp
 rw [el]
 rw [Env.aU el]
 clear el e0 e1 e2 e3 e4 e5 e6 e7 e8 e9 e10 e11 e12 e13 e14
 simp only [d171,eQ,List.drop_succ_cons,List.drop_zero,eW,aq,bF] at hp ⊢
 have hn:=hp.m.oM
 have hn0:=hp.m.oN
 unfold cJ
 unfold t171
 refine ae (fun h=>?_) (fun h=>?_)
 ·simp only [nrm,xdn,reduceIte,Nat.reduceLT,Nat.reduceSub,Nat.reduceAdd] at h
  rw [if_pos h]
  refine ae (fun h1=>?_) (fun h1=>?_)
  ·simp only [nrm,xdn,reduceIte,Nat.reduceLT,Nat.reduceSub,Nat.reduceAdd] at h1
   rw [if_pos h1]
   refine af (by simp only [nrm,xdn,reduceIte,Nat.reduceLT,Nat.reduceSub,Nat.reduceAdd];exact az ts) (ag ?_)
   simp only [nrm,xdn,reduceIte,Nat.reduceLT,Nat.reduceSub,Nat.reduceAdd,Wrd.cds,Mem.cds,lca]
  ·simp only [nrm,xdn,reduceIte,Nat.reduceLT,Nat.reduceSub,Nat.reduceAdd] at h1
   rw [if_neg h1]
   have hn : m.now≤1000000:=hn
   have hn0 : 0≤m.now:=hn0
   refine aH (by simp only [nrm,xdn,reduceIte,Nat.reduceLT,Nat.reduceSub,Nat.reduceAdd];omega) (af (by simp only [nrm,xdn,reduceIte,Nat.reduceLT,Nat.reduceSub,Nat.reduceAdd];exact az ts) (ag ?_))
   simp only [nrm,xdn,reduceIte,Nat.reduceLT,Nat.reduceSub,Nat.reduceAdd,Wrd.cds,Mem.cds,lca]
 simp only [nrm,xdn,reduceIte,Nat.reduceLT,Nat.reduceSub,Nat.reduceAdd] at h
 rw [if_neg (by rw [h];exact Bool.false_ne_true)]
 refine ae (fun h1=>?_) (fun h1=>ae (fun h2=>?_) (fun h2=>?_))
 ·simp only [nrm,xdn,reduceIte,Nat.reduceLT,Nat.reduceSub,Nat.reduceAdd] at h1
  rw [if_pos (.inl h1)]
  refine af (by simp only [nrm,xdn,reduceIte,Nat.reduceLT,Nat.reduceSub,Nat.reduceAdd];exact az ts) (ag ?_)
  simp only [nrm,xdn,reduceIte,Nat.reduceLT,Nat.reduceSub,Nat.reduceAdd,Wrd.cds,Mem.cds,lca]
 ·simp only [nrm,xdn,reduceIte,Nat.reduceLT,Nat.reduceSub,Nat.reduceAdd,cC] at h2
  rw [if_pos (.inr h2)]
  refine af (by simp only [nrm,xdn,reduceIte,Nat.reduceLT,Nat.reduceSub,Nat.reduceAdd];exact az ts) (ag ?_)
  simp only [nrm,xdn,reduceIte,Nat.reduceLT,Nat.reduceSub,Nat.reduceAdd,Wrd.cds,Mem.cds,lca]
 simp only [nrm,xdn,reduceIte,Nat.reduceLT,Nat.reduceSub,Nat.reduceAdd,cC] at h1 h2
 rw [if_neg (fun y=>y.elim h1 h2)]
 refine ae (fun h3=>?_) (fun h3=>?_)
 ·simp only [nrm,xdn,reduceIte,Nat.reduceLT,Nat.reduceSub,Nat.reduceAdd] at h3
  rw [if_pos h3]
  refine af (by simp only [nrm,xdn,reduceIte,Nat.reduceLT,Nat.reduceSub,Nat.reduceAdd];exact az ts) (ah d208 ((jo ⟨m,ts⟩ x.task).1.cds ++ [.i (jo ⟨m,ts⟩ x.task).2]) rfl ?_ (by simp only [nrm,xdn,reduceIte,Nat.reduceLT,Nat.reduceSub,Nat.reduceAdd,d208,eQ,aq]) ?_)
  ·simp only [nrm,xdn,reduceIte,Nat.reduceLT,Nat.reduceSub,Nat.reduceAdd,d208,eQ,aq]
   have hg : tsk ⟨m,ts⟩ x.task∈ts:=dn (by omega)
   exact ⟨by omega,by omega,fun t ht=>⟨(hp.t t ht).1,(hp.t t ht).2.1⟩,hp.m,(hp.t _ hg).2.2⟩
  generalize jo ⟨m,ts⟩ x.task=r
  refine af (by simp only [nrm,xdn,reduceIte,Nat.reduceLT,Nat.reduceSub,Nat.reduceAdd,Wrd.cds,Mem.cds,lca];exact az _) (ag ?_)
  simp only [nrm,xdn,reduceIte,Nat.reduceLT,Nat.reduceSub,Nat.reduceAdd,Wrd.cds,Mem.cds,lca]
 ·simp only [nrm,xdn,reduceIte,Nat.reduceLT,Nat.reduceSub,Nat.reduceAdd] at h3
  rw [if_neg (by rw [h3];exact Bool.false_ne_true)]
  refine af (by simp only [nrm,xdn,reduceIte,Nat.reduceLT,Nat.reduceSub,Nat.reduceAdd];exact az ts) (ah d209 ((gy ⟨m,ts⟩ x.task x.c).1.cds ++ [.i (gy ⟨m,ts⟩ x.task x.c).2]) rfl ?_ (by simp only [nrm,xdn,reduceIte,Nat.reduceLT,Nat.reduceSub,Nat.reduceAdd,d209,eQ,aq,List.drop_succ_cons,List.drop_zero,dz,bF]) ?_)
  ·simp only [nrm,xdn,reduceIte,Nat.reduceLT,Nat.reduceSub,Nat.reduceAdd,d209,eQ,aq]
   exact ⟨by omega,by omega,fun t ht=>(hp.t t ht).1⟩
  generalize gy ⟨m,ts⟩ x.task x.c=r
  refine af (by simp only [nrm,xdn,reduceIte,Nat.reduceLT,Nat.reduceSub,Nat.reduceAdd,Wrd.cds,Mem.cds,lca];exact az _) (ag ?_)
  simp only [nrm,xdn,reduceIte,Nat.reduceLT,Nat.reduceSub,Nat.reduceAdd,Wrd.cds,Mem.cds,lca]
theorem jm {m : Mem} : ∀ {ts : List Tsk},cY m ts=0→∀ t∈ts,cK m t=0
 | [],_,_,h=>by cases h
 | t :: ts,h,u,hu=>by
  have h : (if cK m t≠0 then cK m t else cY m ts)=0:=h
  split at h
  ·rename_i h1;exact absurd h h1
  ·rename_i h1
   rcases List.mem_cons.1 hu with rfl | hu
   ·exact Classical.not_not.1 h1
   ·exact jm h u hu
theorem ou {m : Mem} {t : Tsk} (h : cK m t=0) : t.held.length≤100∧cS m.slots.length t.held=0∧(t.busy=true→bL m t.f):=by
 unfold cK at h
 split at h
 ·cases h
 ·split at h
  ·rename_i h1;exact absurd h h1
  ·rename_i h0 h1
   refine ⟨by omega,Classical.not_not.1 h1,fun hb=>?_⟩
   rw [if_pos hb] at h
   exact (pC m t.f).1 h
theorem iu {w : Wrd} (h : bE w=0) : WIn w.bU:=by
 unfold bE at h
 split at h
 ·rename_i h1;exact absurd h h1
 ·rename_i h1
  split at h
  ·cases h
  ·refine ⟨((fW w.m).1 (Classical.not_not.1 h1)).BU,fun t ht=>?_⟩
   obtain ⟨u,hu,rfl⟩:=List.mem_map.1 ht
   obtain ⟨k1,_,k2⟩:=ou (jm h u hu)
   exact ⟨rfl,by show u.held.length≤_;omega,k2⟩
def doW (w : Wrd) (x : Pik) : Wrd × Int :=
 if bE w≠0 then (Wrd.none,bE w)
 else if (cJ w.bU x).2≠0 then (Wrd.none,(cJ w.bU x).2)
 else ((cJ w.bU x).1,0)
def s140 : Sig:=⟨[.agg [.fz kS,.fz kI,.fz kI,.fz kI,.int .i64,.fz kT],.agg [.int .i64,.bool,.bool,.int .i64,.int .i64,.int .i64,.int .i64,.int .i64,.int .i64]],[.agg [.own 52 kS,.own 3 kI,.own 3 kI,.own 3 kI,.int .i64,.own 129 kTo],.one (.int .i64)]⟩
def d140 : DC:=⟨s140,fun _=>True,fun l=>(doW (Wrd.of l) (Pik.of (l.drop 6))).1.cds ++ [.i (doW (Wrd.of l) (Pik.of (l.drop 6))).2]⟩
theorem bW (a : List bq) (b c d : List Int) (n : Int) {ts : List Tsk} (h : ∀ t∈ts,t.own=false) (l : List CD) : Wrd.of (ai a :: aa b :: aa c :: aa d :: .i n :: aA ts :: l)=⟨⟨a,b,c,d,n⟩,ts⟩:=by
 rw [iw h];exact eQ a b c d n ts l
def l140 : List (Nat × Ct):=[(157,d157.ct),(170,d170.ct),(171,d171.ct)]
def z140 : Cx:={ T:=ttA,C:=sigs l140,F:=[],hints:=[],sig:=s140}
def t140 : Tree :=
 (.call 157 [.var 0,.var 1,.var 2,.var 3,.var 4,.var 5] 15
 (.ite (.not (.eq (.var 15) (.int 0)))
 (.ret [.nil,.nil,.nil,.nil,.int 0,.nil,.var 15])
 (.call 170 [.var 0,.var 1,.var 2,.var 3,.var 4,.var 5] 16
 (.need (.clean (.var 21) 15)
 (.call 171 [.var 16,.var 17,.var 18,.var 19,.var 20,.var 21,.var 6,.var 7,.var 8,.var 9,.var 10,.var 11,.var 12,.var 13,.var 14] 22
 (.ite (.not (.eq (.var 28) (.int 0)))
 (.ret [.nil,.nil,.nil,.nil,.int 0,.nil,.var 28])
 (.need (.clean (.var 27) 15)
 (.ret [.var 22,.var 23,.var 24,.var 25,.var 26,.var 27,.int 0]))))))))
theorem run140 : run z140 6000 [.code (Try.f140.body.getD .skip),.fin (aP z140 Try.f140.results.toList 50)] { fn:=140,tmps:=z140.sig.aE ++ List.replicate (Try.f140.ntmps - z140.sig.aE.length) (.v (.one .undef)),stk:=[],h:=z140.sig.h0,nx:=z140.sig.ins.length,known:=[]}=t140:=by kernel_rfl
theorem ok140 : bJ Try.prog 140 d140.ct:=by
 refine ax (d:=d140) (Z:=z140) (Γ:=gam l140) (fn:=Try.f140) (c:=Try.f140.body.getD .skip) (aJ tok mixed (all_cons ok157 (all_cons ok170 (all_cons ok171 all_nil))) aK) Try.func140 (by kernel_rfl) (by kernel_rfl) rfl run140 fun E hk hp=>?_
 obtain ⟨hk0,hk1,hk2,hk3,hk4,hk5,hk6,hk7,hk8,hk9,hk10,hk11,hk12,hk13,hk14,_⟩:=hk
 obtain ⟨m,e0,e1,e2,e3,e4,b0,b1,b2,b3⟩:=bp (d0:=E 0) (d1:=E 1) (d2:=E 2) (d3:=E 3) (d4:=E 4) hk0 hk1 hk2 hk3 hk4
 obtain ⟨ts,e5,hts,b5⟩:=dB (d:=E 5) hk5
 have b5 : ts.length * 160≤140737488355328:=b5
 obtain ⟨x,e6,e7,e8,e9,e10,e11,e12,e13,e14⟩:=lS (d0:=E 6) (d1:=E 7) (d2:=E 8) (d3:=E 9) (d4:=E 10) (d5:=E 11) (d6:=E 12) (d7:=E 13) (d8:=E 14) hk6 hk7 hk8 hk9 hk10 hk11 hk12 hk13 hk14
 have el : aG E d140.sig.ins.length=[ai m.slots,aa m.heads,aa m.free,aa m.kM,.i m.now,aA ts,.i x.task,.b x.step,.b x.tick,.i x.c.kind,.i x.c.k.a,.i x.c.k.b,.i x.c.time,.i x.c.bucket,.i x.c.slot]:=by
  show [E 0,E 1,E 2,E 3,E 4,E 5,E 6,E 7,E 8,E 9,E 10,E 11,E 12,E 13,E 14]=_
  rw [e0,e1,e2,e3,e4,e5,e6,e7,e8,e9,e10,e11,e12,e13,e14]
 rw [el] at hp
 rw [el]
 rw [Env.aU el]
 clear el e0 e1 e2 e3 e4 e5 e6 e7 e8 e9 e10 e11 e12 e13 e14
 have hown : ∀ t∈ts,t.own=false:=fun t ht=>(hts t ht).1
 simp only [d140,bW _ _ _ _ _ hown,List.drop_succ_cons,List.drop_zero,eW,aq,bF]
 have hx : (⟨x.task,x.step,x.tick,x.c⟩ : Pik)=x:=rfl
 rw [hx]
 unfold doW
 unfold t140
 refine ah d157 [.i (bE ⟨m,ts⟩)] rfl trivial (by simp only [nrm,xdn,reduceIte,Nat.reduceLT,Nat.reduceSub,Nat.reduceAdd,d157,bW _ _ _ _ _ hown,aq]) (ae (fun h=>ag ?_) (fun h=>?_))
 ·simp only [nrm,xdn,reduceIte,Nat.reduceLT,Nat.reduceSub,Nat.reduceAdd] at h ⊢
  rw [if_pos (by simpa using h)]
  rfl
 simp only [nrm,xdn,reduceIte,Nat.reduceLT,Nat.reduceSub,Nat.reduceAdd] at h
 have h : bE ⟨m,ts⟩=0:=by simpa using h
 rw [if_neg (fun y=>y h)]
 have hw:=iu h
 refine ah d170 (Wrd.bU ⟨m,ts⟩).cds rfl trivial (by simp only [nrm,xdn,reduceIte,Nat.reduceLT,Nat.reduceSub,Nat.reduceAdd,d170,bW _ _ _ _ _ hown,aq]) ?_
 generalize hW : Wrd.bU ⟨m,ts⟩=W at *
 refine af (by simp only [nrm,xdn,reduceIte,Nat.reduceLT,Nat.reduceSub,Nat.reduceAdd,Wrd.cds,Mem.cds,lca];exact az _) (ah d171 ((cJ W x).1.cds ++ [.i (cJ W x).2]) rfl ?_ ?_ ?_)
 ·simp only [nrm,xdn,reduceIte,Nat.reduceLT,Nat.reduceSub,Nat.reduceAdd,Wrd.cds,Mem.cds,lca,d171,eQ,aq]
  exact hw
 ·simp only [nrm,xdn,reduceIte,Nat.reduceLT,Nat.reduceSub,Nat.reduceAdd,Wrd.cds,Mem.cds,lca,d171,eQ,aq,List.drop_succ_cons,List.drop_zero,eW,bF]
 generalize cJ W x=r
 refine ae (fun h1=>ag ?_) (fun h1=>?_)
 ·simp only [nrm,xdn,reduceIte,Nat.reduceLT,Nat.reduceSub,Nat.reduceAdd,Wrd.cds,Mem.cds,lca] at h1 ⊢
  rw [if_pos (by simpa using h1)]
  rfl
 simp only [nrm,xdn,reduceIte,Nat.reduceLT,Nat.reduceSub,Nat.reduceAdd,Wrd.cds,Mem.cds,lca] at h1
 rw [if_neg (by simpa using h1)]
 refine af (by simp only [nrm,xdn,reduceIte,Nat.reduceLT,Nat.reduceSub,Nat.reduceAdd,Wrd.cds,Mem.cds,lca];exact az _) (ag ?_)
 simp only [nrm,xdn,reduceIte,Nat.reduceLT,Nat.reduceSub,Nat.reduceAdd,Wrd.cds,Mem.cds,lca]
def idle : Tsk:=⟨false,Frm.none,[],true⟩
def sd (a b n : Int) : Wrd × Int :=
 if (bZ a b).2≠0 then (Wrd.none,(bZ a b).2)
 else if n < 1∨5 < n then (Wrd.none,3)
 else (⟨(bZ a b).1,List.replicate n.toNat idle⟩,0)
def s78 : Sig:=⟨[.one (.int .i64),.one (.int .i64),.one (.int .i64)],[.agg [.own 52 kS,.own 3 kI,.own 3 kI,.own 3 kI,.int .i64,.own 129 kTo],.one (.int .i64)]⟩
def d78 : DC:=⟨s78,fun _=>True,fun l=>(sd (l.getD 0 .u).int (l.getD 1 .u).int (l.getD 2 .u).int).1.cds ++ [.i (sd (l.getD 0 .u).int (l.getD 1 .u).int (l.getD 2 .u).int).2]⟩
def l78 : List (Nat × Ct):=[(57,d57.ct)]
def z78 : Cx:={ T:=ttA,C:=sigs l78,F:=[],hints:=[],sig:=s78}
def t78 : Tree :=
 (.call 57 [.var 0,.var 1] 3
 (.ite (.not (.eq (.var 8) (.int 0)))
 (.ret [.nil,.nil,.nil,.nil,.int 0,.nil,.var 8])
 (.ite (.lt (.var 2) (.int 1))
 (.ret [.nil,.nil,.nil,.nil,.int 0,.nil,.int 3])
 (.ite (.lt (.int 5) (.var 2))
 (.ret [.nil,.nil,.nil,.nil,.int 0,.nil,.int 3])
 (.need (.le (.int 0) (.var 2))
 (.need (.le (.var 2) (.int 879609302220))
 (.need (.le (.var 2) (.len (.rep (.var 2) (.cons (.bool false) (.cons (.int 0) (.cons (.int 0) (.cons (.int 0) (.cons (.int 0) (.cons (.int 0) (.cons (.int 0) (.cons (.int 0) (.cons (.int 0) (.cons (.int 0) (.cons (.int 0) (.cons (.int 0) (.cons .nil (.cons (.bool false) (.cons (.int 0) (.cons (.own .nil) .row0)))))))))))))))))))
 (.need (.clean (.rep (.var 2) (.cons (.bool false) (.cons (.int 0) (.cons (.int 0) (.cons (.int 0) (.cons (.int 0) (.cons (.int 0) (.cons (.int 0) (.cons (.int 0) (.cons (.int 0) (.cons (.int 0) (.cons (.int 0) (.cons (.int 0) (.cons .nil (.cons (.bool false) (.cons (.int 0) (.cons (.own .nil) .row0))))))))))))))))) 15)
 (.ret [.var 3,.var 4,.var 5,.var 6,.var 7,.take (.var 2) (.rep (.var 2) (.cons (.bool false) (.cons (.int 0) (.cons (.int 0) (.cons (.int 0) (.cons (.int 0) (.cons (.int 0) (.cons (.int 0) (.cons (.int 0) (.cons (.int 0) (.cons (.int 0) (.cons (.int 0) (.cons (.int 0) (.cons .nil (.cons (.bool false) (.cons (.int 0) (.cons (.own .nil) .row0))))))))))))))))),.int 0])))))))))
theorem run78 : run z78 6000 [.code (Try.f78.body.getD .skip),.fin (aP z78 Try.f78.results.toList 50)] { fn:=78,tmps:=z78.sig.aE ++ List.replicate (Try.f78.ntmps - z78.sig.aE.length) (.v (.one .undef)),stk:=[],h:=z78.sig.h0,nx:=z78.sig.ins.length,known:=[]}=t78:=by kernel_rfl
theorem ok78 : bJ Try.prog 78 d78.ct:=by
 refine ax (d:=d78) (Z:=z78) (Γ:=gam l78) (fn:=Try.f78) (c:=Try.f78.body.getD .skip) (aJ tok mixed (all_cons ok57 all_nil) aK) Try.func78 (by kernel_rfl) (by kernel_rfl) rfl run78 fun E hk hp=>?_
 obtain ⟨hk0,hk1,hk2,_⟩:=hk
 obtain ⟨x,e0⟩:=ok_int (d:=E 0) hk0
 obtain ⟨x2,e1⟩:=ok_int (d:=E 1) hk1
 obtain ⟨x3,e2⟩:=ok_int (d:=E 2) hk2
 have el : aG E d78.sig.ins.length=[.i x,.i x2,.i x3]:=by
  show [E 0,E 1,E 2]=_
  rw [e0,e1,e2]
 rw [el] at hp
 rw [el]
 rw [Env.aU el]
 clear el e0 e1 e2
 simp only [d78,List.getD_cons_zero,List.getD_cons_succ,CD.aL]
 unfold sd
 unfold t78
 refine ah d57 ((bZ x x2).1.cds ++ [.i (bZ x x2).2]) rfl trivial (by simp only [nrm,xdn,reduceIte,Nat.reduceLT,Nat.reduceSub,Nat.reduceAdd,d57]) ?_
 generalize bZ x x2=r
 refine ae (fun h=>ag ?_) (fun h=>ae (fun h1=>ag ?_) (fun h1=>ae (fun h2=>ag ?_) (fun h2=>?_)))
 ·simp only [nrm,xdn,reduceIte,Nat.reduceLT,Nat.reduceSub,Nat.reduceAdd,Mem.cds,lca] at h ⊢
  rw [if_pos (by simpa using h)];rfl
 ·simp only [nrm,xdn,reduceIte,Nat.reduceLT,Nat.reduceSub,Nat.reduceAdd,Mem.cds,lca] at h h1 ⊢
  rw [if_neg (by simpa using h),if_pos (.inl h1)];rfl
 ·simp only [nrm,xdn,reduceIte,Nat.reduceLT,Nat.reduceSub,Nat.reduceAdd,Mem.cds,lca] at h h2 ⊢
  rw [if_neg (by simpa using h),if_pos (.inr h2)];rfl
 simp only [nrm,xdn,reduceIte,Nat.reduceLT,Nat.reduceSub,Nat.reduceAdd,Mem.cds,lca] at h h1 h2
 rw [if_neg (by simpa using h),if_neg (fun y=>y.elim h1 h2)]
 obtain ⟨k,rfl⟩ : ∃ k : Nat,x3=k:=⟨x3.toNat,by omega⟩
 have hrow : CD.l (List.replicate k [.b false,.i 0,.i 0,.i 0,.i 0,.i 0,.i 0,.i 0,.i 0,.i 0,.i 0,.i 0,.l [],.b false,.i 0,.o []])=ar (List.replicate k idle):=by
  simp only [ar,List.map_replicate];rfl
 refine af (by simp only [nrm,xdn,reduceIte,Nat.reduceLT,Nat.reduceSub,Nat.reduceAdd];omega) (af (by simp only [nrm,xdn,reduceIte,Nat.reduceLT,Nat.reduceSub,Nat.reduceAdd];omega) (af ?_ (af ?_ (ag ?_))))
 ·simp only [nrm,xdn,reduceIte,Nat.reduceLT,Nat.reduceSub,Nat.reduceAdd,CD.row,List.headD_cons,Int.toNat_natCast,List.length_replicate,Mem.cds,lca];omega
 ·simp only [nrm,xdn,reduceIte,Nat.reduceLT,Nat.reduceSub,Nat.reduceAdd,CD.row,CD.aC,List.headD_cons,Int.toNat_natCast,Mem.cds,lca]
  exact cls hrow
 ·simp only [nrm,xdn,reduceIte,Nat.reduceLT,Nat.reduceSub,Nat.reduceAdd,CD.row,CD.aC,List.headD_cons,Int.toNat_natCast,Mem.cds,lca,Wrd.cds]
  rw [List.take_of_length_le (by simp),hrow]
def Bv (w : Wrd) : List iq × Int:=if bE w≠0 then ([],bE w) else iV w.m
def s134 : Sig:=⟨[.agg [.fz kS,.fz kI,.fz kI,.fz kI,.int .i64,.fz kT]],[.one (.own 78 kW),.one (.int .i64)]⟩
def d134 : DC:=⟨s134,fun _=>True,fun l=>[fK (Bv (Wrd.of l)).1,.i (Bv (Wrd.of l)).2]⟩
def l134 : List (Nat × Ct):=[(157,d157.ct),(71,d71.ct)]
def z134 : Cx:={ T:=ttA,C:=sigs l134,F:=[],hints:=[],sig:=s134}
def t134 : Tree :=
 (.call 157 [.var 0,.var 1,.var 2,.var 3,.var 4,.var 5] 6
 (.ite (.not (.eq (.var 6) (.int 0)))
 (.ret [.nil,.var 6])
 (.call 71 [.var 0,.var 1,.var 2,.var 3,.var 4] 7
 (.ret [.var 7,.var 8]))))
theorem run134 : run z134 6000 [.code (Try.f134.body.getD .skip),.fin (aP z134 Try.f134.results.toList 50)] { fn:=134,tmps:=z134.sig.aE ++ List.replicate (Try.f134.ntmps - z134.sig.aE.length) (.v (.one .undef)),stk:=[],h:=z134.sig.h0,nx:=z134.sig.ins.length,known:=[]}=t134:=by kernel_rfl
theorem ok134 : bJ Try.prog 134 d134.ct:=by
 refine ax (d:=d134) (Z:=z134) (Γ:=gam l134) (fn:=Try.f134) (c:=Try.f134.body.getD .skip) (aJ tok mixed (all_cons ok157 (all_cons ok71 all_nil)) aK) Try.func134 (by kernel_rfl) (by kernel_rfl) rfl run134 fun E hk hp=>?_
 obtain ⟨hk0,hk1,hk2,hk3,hk4,hk5,_⟩:=hk
 obtain ⟨m,e0,e1,e2,e3,e4,b0,b1,b2,b3⟩:=bp (d0:=E 0) (d1:=E 1) (d2:=E 2) (d3:=E 3) (d4:=E 4) hk0 hk1 hk2 hk3 hk4
 obtain ⟨ts,e5,hts,b5⟩:=dB (d:=E 5) hk5
 have b5 : ts.length * 160≤140737488355328:=b5
 have el : aG E d134.sig.ins.length=[ai m.slots,aa m.heads,aa m.free,aa m.kM,.i m.now,aA ts]:=by
  show [E 0,E 1,E 2,E 3,E 4,E 5]=_
  rw [e0,e1,e2,e3,e4,e5]
 rw [el] at hp
 rw [el]
 rw [Env.aU el]
 clear el e0 e1 e2 e3 e4 e5
 have hown : ∀ t∈ts,t.own=false:=fun t ht=>(hts t ht).1
 simp only [d134,bW _ _ _ _ _ hown,aq]
 unfold Bv
 unfold t134
 refine ah d157 [.i (bE ⟨m,ts⟩)] rfl trivial (by simp only [nrm,xdn,reduceIte,Nat.reduceLT,Nat.reduceSub,Nat.reduceAdd,d157,bW _ _ _ _ _ hown,aq]) (ae (fun h=>ag ?_) (fun h=>?_))
 ·simp only [nrm,xdn,reduceIte,Nat.reduceLT,Nat.reduceSub,Nat.reduceAdd] at h ⊢
  rw [if_pos (by simpa using h)];rfl
 simp only [nrm,xdn,reduceIte,Nat.reduceLT,Nat.reduceSub,Nat.reduceAdd] at h
 rw [if_neg (by simpa using h)]
 refine ah d71 [fK (iV m).1,.i (iV m).2] rfl trivial (by simp only [nrm,xdn,reduceIte,Nat.reduceLT,Nat.reduceSub,Nat.reduceAdd,d71,mem_of,aq]) (ag ?_)
 simp only [nrm,xdn,reduceIte,Nat.reduceLT,Nat.reduceSub,Nat.reduceAdd]
end Go.Proofs.Ytpmamacjepcdmaa
