import Derived.Test.YtpmamacjepcdmaaCWorld2
import Derived.Test.YtpmamacjepcdmaaCChain
import Derived.Test.YtpmamacjepcdmaaCWorld3
import Derived.Test.YtpmamacjepcdmaaCChainLaws1
import Derived.Test.YtpmamacjepcdmaaCTouch
namespace Go.Proofs.Ytpmamacjepcdmaa
open Go Go.Sy Go.RowKit
set_option linter.unusedSimpArgs false
set_option linter.unusedVariables false
def fb (n : Nat) : List Int→Int
 | []=>0
 | a :: l=>if a < 0∨(n : Int)≤a then 5 else fb n l
def dO (m : Mem) (t : Tsk) : Int :=
 if 100 < t.held.length then 2
 else if fb m.slots.length t.held≠0 then fb m.slots.length t.held
 else if t.busy=true then eO m t.f else 0
def eC (m : Mem) : List Tsk→Int
 | []=>0
 | t :: l=>if dO m t≠0 then dO m t else eC m l
def bL (w : Wrd) : Int :=
 if cP w.m≠0 then cP w.m
 else if w.ts.length < 1∨5 < w.ts.length then 3
 else eC w.m w.ts
def s157 : Sig:=⟨[.agg [.fz kS,.fz kI,.fz kI,.fz kI,.int .i64,.fz kT]],[.one (.int .i64)]⟩
def d157 : DC:=⟨s157,fun _=>True,fun l=>[.i (bL (Wrd.of l))]⟩
def l157 : List (Nat × Ct):=[(51,d51.ct),(43,d43.ct)]
noncomputable def z157 : Cx:={ T:=ttA,C:=sigs l157,F:=[(116,Try.f116),(195,Try.f195),(202,Try.f202)],hints:=[⟨157,7,false,[(26,.lt)],[],[],[],0,0,false⟩,⟨195,2,false,[(8,.lt)],[],[],[],0,0,false⟩],sig:=s157}
def t157 : Tree :=
 (.call 51 [.var 0,.var 1,.var 2,.var 3,.var 4] 6
 (.ite (.not (.eq (.var 6) (.int 0)))
 (.ret [.var 6])
 (.ite (.lt (.len (.var 5)) (.int 1))
 (.ret [.int 3])
 (.ite (.lt (.int 5) (.len (.var 5)))
 (.ret [.int 3])
 (.loop 7 [.int .i64] [.int 0]
 (.ite (.lt (.var 8) (.len (.var 5)))
 (.need (.le (.int 0) (.var 8))
 (.ite (.lt (.int 100) (.len (.cell (.var 5) (.var 8) 15)))
 (.ret [.int 2])
 (.loop 9 [.int .i64] [.int 0]
 (.ite (.lt (.var 10) (.len (.cell (.var 5) (.var 8) 15)))
 (.need (.le (.int 0) (.var 10))
 (.ite (.lt (.cell (.cell (.var 5) (.var 8) 15) (.var 10) 0) (.int 0))
 (.ret [.int 5])
 (.ite (.le (.len (.var 0)) (.cell (.cell (.var 5) (.var 8) 15) (.var 10) 0))
 (.ret [.int 5])
 (.need (.fit (.add (.var 10) (.int 1)))
 (.back 9 [.add (.var 10) (.int 1)])))))
 (.ite (.cell (.var 5) (.var 8) 0)
 (.call 43 [.var 0,.var 1,.var 2,.var 3,.var 4,.cell (.var 5) (.var 8) 1,.cell (.var 5) (.var 8) 2,.cell (.var 5) (.var 8) 3,.cell (.var 5) (.var 8) 4,.cell (.var 5) (.var 8) 5,.cell (.var 5) (.var 8) 6,.cell (.var 5) (.var 8) 7,.cell (.var 5) (.var 8) 8,.cell (.var 5) (.var 8) 9,.cell (.var 5) (.var 8) 10,.cell (.var 5) (.var 8) 11,.cell (.var 5) (.var 8) 12,.cell (.var 5) (.var 8) 13,.cell (.var 5) (.var 8) 14] 11
 (.ite (.not (.eq (.var 11) (.int 0)))
 (.ret [.var 11])
 (.need (.fit (.add (.var 8) (.int 1)))
 (.back 7 [.add (.var 8) (.int 1)]))))
 (.need (.fit (.add (.var 8) (.int 1)))
 (.back 7 [.add (.var 8) (.int 1)])))))))
 (.ret [.int 0])))))))
theorem run157 : run z157 6000 [.code (Try.f157.body.getD .skip),.fin (bt z157 Try.f157.results.toList 50)] { fn:=157,tmps:=z157.sig.aM ++ List.replicate (Try.f157.ntmps - z157.sig.aM.length) (.v (.one .undef)),stk:=[],h:=z157.sig.h0,nx:=z157.sig.ins.length,known:=[]}=t157:=by kernel_rfl
theorem ok157 : cB Try.prog 157 d157.ct:=by
 refine aD (d:=d157) (Z:=z157) (Γ:=gam l157) (fn:=Try.f157) (c:=Try.f157.body.getD .skip) (bg tok mixed (all_cons ok51 (all_cons ok43 all_nil)) (dX (c:=Try.f116.body.getD .skip) Try.func116 (by kernel_rfl) (by kernel_rfl) (dX (c:=Try.f195.body.getD .skip) Try.func195 (by kernel_rfl) (by kernel_rfl) (dX (c:=Try.f202.body.getD .skip) Try.func202 (by kernel_rfl) (by kernel_rfl) bh)))) Try.func157 (by kernel_rfl) (by kernel_rfl) rfl run157 fun E hk hp=>?_
 obtain ⟨hk0,hk1,hk2,hk3,hk4,hk5,_⟩:=hk
 obtain ⟨m,e0,e1,e2,e3,e4,b0,b1,b2,b3⟩:=cv (d0:=E 0) (d1:=E 1) (d2:=E 2) (d3:=E 3) (d4:=E 4) hk0 hk1 hk2 hk3 hk4
 obtain ⟨ts,e5,hts,b5⟩:=hU (d:=E 5) hk5
 have b5 : ts.length * 160≤140737488355328:=b5
 have el : aH E d157.sig.ins.length=[au m.slots,af m.heads,af m.free,af m.ae,.i m.now,G2 ts]:=by
  show [E 0,E 1,E 2,E 3,E 4,E 5]=_
  rw [e0,e1,e2,e3,e4,e5]
 rw [el] at hp
 rw [el]
 rw [Env.bJ el]
 clear el e0 e1 e2 e3 e4 e5
 have hown : ∀ t∈ts,t.own=false:=fun t ht=>(hts t ht).1
 have hc : d157.fn [au m.slots,af m.heads,af m.free,af m.ae,.i m.now,G2 ts]=[.i (bL ⟨m,ts⟩)]:=by
  simp only [d157,Wrd.of,mem_of,aA,List.getD_cons_zero,List.getD_cons_succ,fZ hown]
 rw [hc]
 unfold bL
 unfold t157
 refine ai d51 [.i (cP m)] rfl trivial (by simp only [nrm,xdn,reduceIte,Nat.reduceLT,Nat.reduceSub,Nat.reduceAdd,d51,mem_of,aA]) (G0 (fun h=>aj ?_) (fun h=>?_))
 ·simp only [nrm,xdn,reduceIte,Nat.reduceLT,Nat.reduceSub,Nat.reduceAdd] at h ⊢
  rw [if_pos (by simpa using h)]
 simp only [nrm,xdn,reduceIte,Nat.reduceLT,Nat.reduceSub,Nat.reduceAdd] at h
 rw [if_neg (by simpa using h)]
 refine G0 (fun h1=>aj ?_) (fun h1=>G0 (fun h2=>aj ?_) (fun h2=>?_))
 ·simp only [nrm,xdn,reduceIte,Nat.reduceLT,Nat.reduceSub,Nat.reduceAdd,cJ] at h1 ⊢
  rw [if_pos (by omega)]
 ·simp only [nrm,xdn,reduceIte,Nat.reduceLT,Nat.reduceSub,Nat.reduceAdd,cJ] at h2 ⊢
  rw [if_pos (by omega)]
 simp only [nrm,xdn,reduceIte,Nat.reduceLT,Nat.reduceSub,Nat.reduceAdd,cJ] at h1 h2
 rw [if_neg (show ¬ (ts.length < 1∨5 < ts.length) by omega)]
 refine bO (fun ds=>∃ i : Nat,ds=[.i i]∧i≤ts.length∧eC m ts=eC m (ts.drop i)) (fun ds=>ts.length - (ds.getD 0 .u).int.toNat) ⟨0,rfl,by omega,rfl⟩ ?_
 rintro ds - ⟨i,rfl,hi,hs⟩
 refine G0 (fun hlt=>?_) (fun hge=>aj ?_)
 ·simp only [nrm,xdn,reduceIte,Nat.reduceLT,Nat.reduceSub,Nat.reduceAdd,cJ] at hlt
  obtain ⟨t,ht⟩ : ∃ t,ts.getD i default=t:=⟨_,rfl⟩
  rw [dL (show i < ts.length by omega),ht] at hs
  have hs : eC m ts=if dO m t≠0 then dO m t else eC m (ts.drop (i + 1)):=hs
  have e0 : ((G2 ts).rows.getD i []).getD 0 .u=.b t.busy:=by rw [iB 0 (by omega),ht];rfl
  have e15 : ((G2 ts).rows.getD i []).getD 15 .u=af t.held:=by rw [iB 15 (by omega),ht];rfl
  have bad : ∀ e : Int,e≠0→dO m t=e→[CD.i e]=[CD.i (eC m ts)]:=fun e he hx=>by rw [hs,hx,if_pos he]
  refine ag (by simp only [nrm,xdn,reduceIte,Nat.reduceLT,Nat.reduceSub,Nat.reduceAdd];omega) (G0 (fun h3=>aj ?_) (fun h3=>?_))
  ·simp only [nrm,xdn,reduceIte,Nat.reduceLT,Nat.reduceSub,Nat.reduceAdd,Int.toNat_natCast,e15,aw] at h3 ⊢
   exact bad 2 (by decide) (by unfold dO;rw [if_pos (by omega)])
  simp only [nrm,xdn,reduceIte,Nat.reduceLT,Nat.reduceSub,Nat.reduceAdd,Int.toNat_natCast,e15,aw] at h3
  have hh : dO m t=if fb m.slots.length t.held≠0 then fb m.slots.length t.held else if t.busy=true then eO m t.f else 0:=by unfold dO;rw [if_neg (by omega)]
  refine bO (fun ds=>∃ j : Nat,ds=[.i j]∧j≤t.held.length∧fb m.slots.length t.held=fb m.slots.length (t.held.drop j)) (fun ds=>t.held.length - (ds.getD 0 .u).int.toNat) ⟨0,rfl,by omega,rfl⟩ ?_
  rintro ds - ⟨j,rfl,hj,hq⟩
  refine G0 (fun hlt'=>?_) (fun hge'=>?_)
  ·simp only [nrm,xdn,reduceIte,Nat.reduceLT,Nat.reduceSub,Nat.reduceAdd,Int.toNat_natCast,e15,aw] at hlt'
   obtain ⟨a,ha⟩ : ∃ a,t.held.getD j 0=a:=⟨_,rfl⟩
   have hd : t.held.drop j=a :: t.held.drop (j + 1):=by rw [← ha];exact dL (show j < t.held.length by omega)
   rw [hd] at hq
   have hq : fb m.slots.length t.held=if a < 0∨(m.slots.length : Int)≤a then 5 else fb m.slots.length (t.held.drop (j + 1)):=hq
   refine ag (by simp only [nrm,xdn,reduceIte,Nat.reduceLT,Nat.reduceSub,Nat.reduceAdd];omega) (G0 (fun h4=>aj ?_) (fun h4=>G0 (fun h5=>aj ?_) (fun h5=>?_)))
   ·simp only [nrm,xdn,reduceIte,Nat.reduceLT,Nat.reduceSub,Nat.reduceAdd,Int.toNat_natCast,e15,aG,ha] at h4 ⊢
    rw [if_pos (.inl h4)] at hq
    exact bad 5 (by decide) (by rw [hh,hq];rfl)
   ·simp only [nrm,xdn,reduceIte,Nat.reduceLT,Nat.reduceSub,Nat.reduceAdd,Int.toNat_natCast,e15,aG,ha,aN] at h5 ⊢
    rw [if_pos (.inr h5)] at hq
    exact bad 5 (by decide) (by rw [hh,hq];rfl)
   simp only [nrm,xdn,reduceIte,Nat.reduceLT,Nat.reduceSub,Nat.reduceAdd,Int.toNat_natCast,e15,aG,ha,aN] at h4 h5
   rw [if_neg (by omega)] at hq
   refine G1 (by simp only [nrm,xdn,reduceIte,Nat.reduceLT,Nat.reduceSub,Nat.reduceAdd];omega) (aV ⟨⟨j + 1,?_,by omega,hq⟩,?_⟩)
   ·simp only [nrm,xdn,reduceIte,Nat.reduceLT,Nat.reduceSub,Nat.reduceAdd];rfl
   ·simp only [nrm,xdn,reduceIte,Nat.reduceLT,Nat.reduceSub,Nat.reduceAdd];omega
  ·simp only [nrm,xdn,reduceIte,Nat.reduceLT,Nat.reduceSub,Nat.reduceAdd,Int.toNat_natCast,e15,aw] at hge'
   rw [List.drop_eq_nil_of_le (show t.held.length≤j by omega)] at hq
   have hq : fb m.slots.length t.held=0:=hq
   rw [hq,if_neg (by simp)] at hh
   have e1 : ((G2 ts).rows.getD i []).getD 1 .u=.i t.f.c.kind:=by rw [iB 1 (by omega),ht];rfl
   have e2 : ((G2 ts).rows.getD i []).getD 2 .u=.i t.f.c.k.a:=by rw [iB 2 (by omega),ht];rfl
   have e3 : ((G2 ts).rows.getD i []).getD 3 .u=.i t.f.c.k.b:=by rw [iB 3 (by omega),ht];rfl
   have e4 : ((G2 ts).rows.getD i []).getD 4 .u=.i t.f.c.time:=by rw [iB 4 (by omega),ht];rfl
   have e5 : ((G2 ts).rows.getD i []).getD 5 .u=.i t.f.c.bucket:=by rw [iB 5 (by omega),ht];rfl
   have e6 : ((G2 ts).rows.getD i []).getD 6 .u=.i t.f.c.slot:=by rw [iB 6 (by omega),ht];rfl
   have e7 : ((G2 ts).rows.getD i []).getD 7 .u=.i t.f.pc:=by rw [iB 7 (by omega),ht];rfl
   have e8 : ((G2 ts).rows.getD i []).getD 8 .u=.i t.f.cur:=by rw [iB 8 (by omega),ht];rfl
   have e9 : ((G2 ts).rows.getD i []).getD 9 .u=.i t.f.prev:=by rw [iB 9 (by omega),ht];rfl
   have e10 : ((G2 ts).rows.getD i []).getD 10 .u=.i t.f.slot:=by rw [iB 10 (by omega),ht];rfl
   have e11 : ((G2 ts).rows.getD i []).getD 11 .u=.i t.f.n:=by rw [iB 11 (by omega),ht];rfl
   have e12 : ((G2 ts).rows.getD i []).getD 12 .u=bS t.f.keys:=by rw [iB 12 (by omega),ht];rfl
   have e13 : ((G2 ts).rows.getD i []).getD 13 .u=.b t.f.done:=by rw [iB 13 (by omega),ht];rfl
   have e14 : ((G2 ts).rows.getD i []).getD 14 .u=.i t.f.e:=by rw [iB 14 (by omega),ht];rfl
   refine G0 (fun h6=>?_) (fun h6=>?_)
   ·simp only [nrm,xdn,reduceIte,Nat.reduceLT,Nat.reduceSub,Nat.reduceAdd,Int.toNat_natCast,e0] at h6
    rw [if_pos h6] at hh
    refine ai d43 [.i (eO m t.f)] rfl trivial (by simp only [nrm,xdn,reduceIte,Nat.reduceLT,Nat.reduceSub,Nat.reduceAdd,Int.toNat_natCast,e1,e2,e3,e4,e5,e6,e7,e8,e9,e10,e11,e12,e13,e14,d43,mem_of,aA,List.drop_succ_cons,List.drop_zero,dJ]) (G0 (fun h7=>aj ?_) (fun h7=>?_))
    ·simp only [nrm,xdn,reduceIte,Nat.reduceLT,Nat.reduceSub,Nat.reduceAdd] at h7 ⊢
     exact bad _ (by simpa using h7) hh
    ·simp only [nrm,xdn,reduceIte,Nat.reduceLT,Nat.reduceSub,Nat.reduceAdd] at h7
     rw [hh,if_neg (by simpa using h7)] at hs
     refine G1 (by simp only [nrm,xdn,reduceIte,Nat.reduceLT,Nat.reduceSub,Nat.reduceAdd];omega) (fj (by decide) ⟨⟨i + 1,?_,by omega,hs⟩,?_⟩)
     ·simp only [nrm,xdn,reduceIte,Nat.reduceLT,Nat.reduceSub,Nat.reduceAdd];rfl
     ·simp only [nrm,xdn,reduceIte,Nat.reduceLT,Nat.reduceSub,Nat.reduceAdd];omega
   ·simp only [nrm,xdn,reduceIte,Nat.reduceLT,Nat.reduceSub,Nat.reduceAdd,Int.toNat_natCast,e0] at h6
    rw [if_neg (by rw [h6];exact Bool.false_ne_true)] at hh
    rw [hh,if_neg (by simp)] at hs
    refine G1 (by simp only [nrm,xdn,reduceIte,Nat.reduceLT,Nat.reduceSub,Nat.reduceAdd];omega) (fj (by decide) ⟨⟨i + 1,?_,by omega,hs⟩,?_⟩)
    ·simp only [nrm,xdn,reduceIte,Nat.reduceLT,Nat.reduceSub,Nat.reduceAdd];rfl
    ·simp only [nrm,xdn,reduceIte,Nat.reduceLT,Nat.reduceSub,Nat.reduceAdd];omega
 ·simp only [nrm,xdn,reduceIte,Nat.reduceLT,Nat.reduceSub,Nat.reduceAdd,cJ] at hge ⊢
  rw [hs,List.drop_eq_nil_of_le (show ts.length≤i by omega)]
  rfl
end Go.Proofs.Ytpmamacjepcdmaa

namespace Go.Proofs.Ytpmamacjepcdmaa
open Go Go.Sy Go.RowKit
set_option linter.unusedSimpArgs false
set_option linter.unusedVariables false
structure WIn (w : Wrd) : Prop where
 m : aZ w.m
 t : ∀ t∈w.ts,t.own=true∧t.held.length≤10000∧(t.busy=true→bV w.m t.f)
def bN (w : Wrd) (x : Pik) : Wrd × Int :=
 if x.tick=true then (if w.m.now=1000000 then (w,7) else (⟨{ w.m with now:=w.m.now + 1},w.ts⟩,0))
 else if x.task < 0∨(w.ts.length : Int)≤x.task then (w,5)
 else if x.step=true then cN w x.task
 else eR w x.task x.c
def s171 : Sig:=⟨[.ptr [.own 52 kS,.own 3 kI,.own 3 kI,.own 3 kI,.int .i64,.own 129 kTo],.agg [.int .i64,.bool,.bool,.int .i64,.int .i64,.int .i64,.int .i64,.int .i64,.int .i64]],[.one (.int .i64)]⟩
def d171 : DC:=⟨s171,fun l=>WIn (Wrd.of l),fun l=>(bN (Wrd.of l) (Pik.of (l.drop 6))).1.cds ++ [.i (bN (Wrd.of l) (Pik.of (l.drop 6))).2]⟩
theorem oe (a : Int) (b c : Bool) (d e f g h i : Int) (l : List CD) : Pik.of (.i a :: .b b :: .b c :: .i d :: .i e :: .i f :: .i g :: .i h :: .i i :: l)=⟨a,b,c,⟨d,⟨e,f⟩,g,h,i⟩⟩:=rfl
def l171 : List (Nat × Ct):=[(208,d208.ct),(209,d209.ct)]
def z171 : Cx:={ T:=ttA,C:=sigs l171,F:=[],hints:=[],sig:=s171}
def t171 : Tree :=
 (.ite (.var 8)
 (.ite (.eq (.var 4) (.int 1000000))
 (.need (.clean (.var 5) 15)
 (.ret [.var 0,.var 1,.var 2,.var 3,.var 4,.var 5,.int 7]))
 (.need (.fit (.add (.var 4) (.int 1)))
 (.need (.clean (.var 5) 15)
 (.ret [.var 0,.var 1,.var 2,.var 3,.add (.var 4) (.int 1),.var 5,.int 0]))))
 (.ite (.lt (.var 6) (.int 0))
 (.need (.clean (.var 5) 15)
 (.ret [.var 0,.var 1,.var 2,.var 3,.var 4,.var 5,.int 5]))
 (.ite (.le (.len (.var 5)) (.var 6))
 (.need (.clean (.var 5) 15)
 (.ret [.var 0,.var 1,.var 2,.var 3,.var 4,.var 5,.int 5]))
 (.ite (.var 7)
 (.need (.clean (.var 5) 15)
 (.call 208 [.var 0,.var 1,.var 2,.var 3,.var 4,.var 5,.var 6] 15
 (.need (.clean (.var 20) 15)
 (.ret [.var 15,.var 16,.var 17,.var 18,.var 19,.var 20,.var 21]))))
 (.need (.clean (.var 5) 15)
 (.call 209 [.var 0,.var 1,.var 2,.var 3,.var 4,.var 5,.var 6,.var 9,.var 10,.var 11,.var 12,.var 13,.var 14] 15
 (.need (.clean (.var 20) 15)
 (.ret [.var 15,.var 16,.var 17,.var 18,.var 19,.var 20,.var 21]))))))))
theorem run171 : run z171 6000 [.code (Try.f171.body.getD .skip),.fin (bt z171 Try.f171.results.toList 50)] { fn:=171,tmps:=z171.sig.aM ++ List.replicate (Try.f171.ntmps - z171.sig.aM.length) (.v (.one .undef)),stk:=[],h:=z171.sig.h0,nx:=z171.sig.ins.length,known:=[]}=t171:=by kernel_rfl
theorem ok171 : cB Try.prog 171 d171.ct:=by
 refine aD (d:=d171) (Z:=z171) (Γ:=gam l171) (fn:=Try.f171) (c:=Try.f171.body.getD .skip) (bg tok mixed (all_cons ok208 (all_cons ok209 all_nil)) bh) Try.func171 (by kernel_rfl) (by kernel_rfl) rfl run171 fun E hk hp=>?_
 obtain ⟨hk0,hk1,hk2,hk3,hk4,hk5,hk6,hk7,hk8,hk9,hk10,hk11,hk12,hk13,hk14,_⟩:=hk
 obtain ⟨m,e0,e1,e2,e3,e4,b0,b1,b2,b3⟩:=cv (d0:=E 0) (d1:=E 1) (d2:=E 2) (d3:=E 3) (d4:=E 4) hk0 hk1 hk2 hk3 hk4
 obtain ⟨ts,e5,hts,b5⟩:=qf (d:=E 5) hk5
 have b5 : ts.length * 160≤140737488355328:=b5
 obtain ⟨x,e6,e7,e8,e9,e10,e11,e12,e13,e14⟩:=vL (d0:=E 6) (d1:=E 7) (d2:=E 8) (d3:=E 9) (d4:=E 10) (d5:=E 11) (d6:=E 12) (d7:=E 13) (d8:=E 14) hk6 hk7 hk8 hk9 hk10 hk11 hk12 hk13 hk14
 have el : aH E d171.sig.ins.length=[au m.slots,af m.heads,af m.free,af m.ae,.i m.now,az ts,.i x.task,.b x.step,.b x.tick,.i x.c.kind,.i x.c.k.a,.i x.c.k.b,.i x.c.time,.i x.c.bucket,.i x.c.slot]:=by
  show [E 0,E 1,E 2,E 3,E 4,E 5,E 6,E 7,E 8,E 9,E 10,E 11,E 12,E 13,E 14]=_
  rw [e0,e1,e2,e3,e4,e5,e6,e7,e8,e9,e10,e11,e12,e13,e14]
 rw [el] at hp
 rw [el]
 rw [Env.bJ el]
 clear el e0 e1 e2 e3 e4 e5 e6 e7 e8 e9 e10 e11 e12 e13 e14
 simp only [d171,fX,List.drop_succ_cons,List.drop_zero,oe,aA,cz] at hp ⊢
 have hn:=hp.m.Ik
 have hn0:=hp.m.ma
 unfold bN
 unfold t171
 refine G0 (fun h=>?_) (fun h=>?_)
 ·simp only [nrm,xdn,reduceIte,Nat.reduceLT,Nat.reduceSub,Nat.reduceAdd] at h
  rw [if_pos h]
  refine G0 (fun h1=>?_) (fun h1=>?_)
  ·simp only [nrm,xdn,reduceIte,Nat.reduceLT,Nat.reduceSub,Nat.reduceAdd] at h1
   rw [if_pos h1]
   refine ag (by simp only [nrm,xdn,reduceIte,Nat.reduceLT,Nat.reduceSub,Nat.reduceAdd];exact aI ts) (aj ?_)
   simp only [nrm,xdn,reduceIte,Nat.reduceLT,Nat.reduceSub,Nat.reduceAdd,Wrd.cds,Mem.cds,lca]
  ·simp only [nrm,xdn,reduceIte,Nat.reduceLT,Nat.reduceSub,Nat.reduceAdd] at h1
   rw [if_neg h1]
   have hn : m.now≤1000000:=hn
   have hn0 : 0≤m.now:=hn0
   refine G1 (by simp only [nrm,xdn,reduceIte,Nat.reduceLT,Nat.reduceSub,Nat.reduceAdd];omega) (ag (by simp only [nrm,xdn,reduceIte,Nat.reduceLT,Nat.reduceSub,Nat.reduceAdd];exact aI ts) (aj ?_))
   simp only [nrm,xdn,reduceIte,Nat.reduceLT,Nat.reduceSub,Nat.reduceAdd,Wrd.cds,Mem.cds,lca]
 simp only [nrm,xdn,reduceIte,Nat.reduceLT,Nat.reduceSub,Nat.reduceAdd] at h
 rw [if_neg (by rw [h];exact Bool.false_ne_true)]
 refine G0 (fun h1=>?_) (fun h1=>G0 (fun h2=>?_) (fun h2=>?_))
 ·simp only [nrm,xdn,reduceIte,Nat.reduceLT,Nat.reduceSub,Nat.reduceAdd] at h1
  rw [if_pos (.inl h1)]
  refine ag (by simp only [nrm,xdn,reduceIte,Nat.reduceLT,Nat.reduceSub,Nat.reduceAdd];exact aI ts) (aj ?_)
  simp only [nrm,xdn,reduceIte,Nat.reduceLT,Nat.reduceSub,Nat.reduceAdd,Wrd.cds,Mem.cds,lca]
 ·simp only [nrm,xdn,reduceIte,Nat.reduceLT,Nat.reduceSub,Nat.reduceAdd,eK] at h2
  rw [if_pos (.inr h2)]
  refine ag (by simp only [nrm,xdn,reduceIte,Nat.reduceLT,Nat.reduceSub,Nat.reduceAdd];exact aI ts) (aj ?_)
  simp only [nrm,xdn,reduceIte,Nat.reduceLT,Nat.reduceSub,Nat.reduceAdd,Wrd.cds,Mem.cds,lca]
 simp only [nrm,xdn,reduceIte,Nat.reduceLT,Nat.reduceSub,Nat.reduceAdd,eK] at h1 h2
 rw [if_neg (fun y=>y.elim h1 h2)]
 refine G0 (fun h3=>?_) (fun h3=>?_)
 ·simp only [nrm,xdn,reduceIte,Nat.reduceLT,Nat.reduceSub,Nat.reduceAdd] at h3
  rw [if_pos h3]
  refine ag (by simp only [nrm,xdn,reduceIte,Nat.reduceLT,Nat.reduceSub,Nat.reduceAdd];exact aI ts) (ai d208 ((cN ⟨m,ts⟩ x.task).1.cds ++ [.i (cN ⟨m,ts⟩ x.task).2]) rfl ?_ (by simp only [nrm,xdn,reduceIte,Nat.reduceLT,Nat.reduceSub,Nat.reduceAdd,d208,fX,aA]) ?_)
  ·simp only [nrm,xdn,reduceIte,Nat.reduceLT,Nat.reduceSub,Nat.reduceAdd,d208,fX,aA]
   have hg : tsk ⟨m,ts⟩ x.task∈ts:=fc (by omega)
   exact ⟨by omega,by omega,fun t ht=>⟨(hp.t t ht).1,(hp.t t ht).2.1⟩,hp.m,(hp.t _ hg).2.2⟩
  generalize cN ⟨m,ts⟩ x.task=r
  refine ag (by simp only [nrm,xdn,reduceIte,Nat.reduceLT,Nat.reduceSub,Nat.reduceAdd,Wrd.cds,Mem.cds,lca];exact aI _) (aj ?_)
  simp only [nrm,xdn,reduceIte,Nat.reduceLT,Nat.reduceSub,Nat.reduceAdd,Wrd.cds,Mem.cds,lca]
 ·simp only [nrm,xdn,reduceIte,Nat.reduceLT,Nat.reduceSub,Nat.reduceAdd] at h3
  rw [if_neg (by rw [h3];exact Bool.false_ne_true)]
  refine ag (by simp only [nrm,xdn,reduceIte,Nat.reduceLT,Nat.reduceSub,Nat.reduceAdd];exact aI ts) (ai d209 ((eR ⟨m,ts⟩ x.task x.c).1.cds ++ [.i (eR ⟨m,ts⟩ x.task x.c).2]) rfl ?_ (by simp only [nrm,xdn,reduceIte,Nat.reduceLT,Nat.reduceSub,Nat.reduceAdd,d209,fX,aA,List.drop_succ_cons,List.drop_zero,fG,cz]) ?_)
  ·simp only [nrm,xdn,reduceIte,Nat.reduceLT,Nat.reduceSub,Nat.reduceAdd,d209,fX,aA]
   exact ⟨by omega,by omega,fun t ht=>(hp.t t ht).1⟩
  generalize eR ⟨m,ts⟩ x.task x.c=r
  refine ag (by simp only [nrm,xdn,reduceIte,Nat.reduceLT,Nat.reduceSub,Nat.reduceAdd,Wrd.cds,Mem.cds,lca];exact aI _) (aj ?_)
  simp only [nrm,xdn,reduceIte,Nat.reduceLT,Nat.reduceSub,Nat.reduceAdd,Wrd.cds,Mem.cds,lca]
theorem lS {m : Mem} : ∀ {ts : List Tsk},eC m ts=0→∀ t∈ts,dO m t=0
 | [],_,_,h=>by cases h
 | t :: ts,h,u,hu=>by
  have h : (if dO m t≠0 then dO m t else eC m ts)=0:=h
  split at h
  ·rename_i h1;exact absurd h h1
  ·rename_i h1
   rcases List.mem_cons.1 hu with rfl | hu
   ·exact Classical.not_not.1 h1
   ·exact lS h u hu
theorem sv {m : Mem} {t : Tsk} (h : dO m t=0) : t.held.length≤100∧fb m.slots.length t.held=0∧(t.busy=true→bV m t.f):=by
 unfold dO at h
 split at h
 ·cases h
 ·split at h
  ·rename_i h1;exact absurd h h1
  ·rename_i h0 h1
   refine ⟨by omega,Classical.not_not.1 h1,fun hb=>?_⟩
   rw [if_pos hb] at h
   exact (mD m t.f).1 h
theorem Is {w : Wrd} (h : bL w=0) : WIn w.bm:=by
 unfold bL at h
 split at h
 ·rename_i h1;exact absurd h h1
 ·rename_i h1
  split at h
  ·cases h
  ·refine ⟨((dT w.m).1 (Classical.not_not.1 h1)).rJ,fun t ht=>?_⟩
   obtain ⟨u,hu,rfl⟩:=List.mem_map.1 ht
   obtain ⟨k1,_,k2⟩:=sv (lS h u hu)
   exact ⟨rfl,by show u.held.length≤_;omega,k2⟩
def doW (w : Wrd) (x : Pik) : Wrd × Int :=
 if bL w≠0 then (Wrd.none,bL w)
 else if (bN w.bm x).2≠0 then (Wrd.none,(bN w.bm x).2)
 else ((bN w.bm x).1,0)
def s140 : Sig:=⟨[.agg [.fz kS,.fz kI,.fz kI,.fz kI,.int .i64,.fz kT],.agg [.int .i64,.bool,.bool,.int .i64,.int .i64,.int .i64,.int .i64,.int .i64,.int .i64]],[.agg [.own 52 kS,.own 3 kI,.own 3 kI,.own 3 kI,.int .i64,.own 129 kTo],.one (.int .i64)]⟩
def d140 : DC:=⟨s140,fun _=>True,fun l=>(doW (Wrd.of l) (Pik.of (l.drop 6))).1.cds ++ [.i (doW (Wrd.of l) (Pik.of (l.drop 6))).2]⟩
theorem kr (a : List bp) (b c d : List Int) (n : Int) {ts : List Tsk} (h : ∀ t∈ts,t.own=false) (l : List CD) : Wrd.of (au a :: af b :: af c :: af d :: .i n :: G2 ts :: l)=⟨⟨a,b,c,d,n⟩,ts⟩:=by
 rw [kv h];exact fX a b c d n ts l
def l140 : List (Nat × Ct):=[(157,d157.ct),(170,d170.ct),(171,d171.ct)]
def z140 : Cx:={ T:=ttA,C:=sigs l140,F:=[],hints:=[],sig:=s140}
def t140 : Tree :=
 (.call 157 [.var 0,.var 1,.var 2,.var 3,.var 4,.var 5] 15
 (.ite (.not (.eq (.var 15) (.int 0)))
 (.ret [.nil,.nil,.nil,.nil,.int 0,.nil,.var 15])
 (.call 170 [.var 0,.var 1,.var 2,.var 3,.var 4,.var 5] 16
 (.need (.clean (.var 21) 15)
 (.call 171 [.var 16,.var 17,.var 18,.var 19,.var 20,.var 21,.var 6,.var 7,.var 8,.var 9,.var 10,.var 11,.var 12,.var 13,.var 14] 22
 (.ite (.not (.eq (.var 28) (.int 0)))
 (.ret [.nil,.nil,.nil,.nil,.int 0,.nil,.var 28])
 (.need (.clean (.var 27) 15)
 (.ret [.var 22,.var 23,.var 24,.var 25,.var 26,.var 27,.int 0]))))))))
theorem run140 : run z140 6000 [.code (Try.f140.body.getD .skip),.fin (bt z140 Try.f140.results.toList 50)] { fn:=140,tmps:=z140.sig.aM ++ List.replicate (Try.f140.ntmps - z140.sig.aM.length) (.v (.one .undef)),stk:=[],h:=z140.sig.h0,nx:=z140.sig.ins.length,known:=[]}=t140:=by kernel_rfl
theorem ok140 : cB Try.prog 140 d140.ct:=by
 refine aD (d:=d140) (Z:=z140) (Γ:=gam l140) (fn:=Try.f140) (c:=Try.f140.body.getD .skip) (bg tok mixed (all_cons ok157 (all_cons ok170 (all_cons ok171 all_nil))) bh) Try.func140 (by kernel_rfl) (by kernel_rfl) rfl run140 fun E hk hp=>?_
 obtain ⟨hk0,hk1,hk2,hk3,hk4,hk5,hk6,hk7,hk8,hk9,hk10,hk11,hk12,hk13,hk14,_⟩:=hk
 obtain ⟨m,e0,e1,e2,e3,e4,b0,b1,b2,b3⟩:=cv (d0:=E 0) (d1:=E 1) (d2:=E 2) (d3:=E 3) (d4:=E 4) hk0 hk1 hk2 hk3 hk4
 obtain ⟨ts,e5,hts,b5⟩:=hU (d:=E 5) hk5
 have b5 : ts.length * 160≤140737488355328:=b5
 obtain ⟨x,e6,e7,e8,e9,e10,e11,e12,e13,e14⟩:=vL (d0:=E 6) (d1:=E 7) (d2:=E 8) (d3:=E 9) (d4:=E 10) (d5:=E 11) (d6:=E 12) (d7:=E 13) (d8:=E 14) hk6 hk7 hk8 hk9 hk10 hk11 hk12 hk13 hk14
 have el : aH E d140.sig.ins.length=[au m.slots,af m.heads,af m.free,af m.ae,.i m.now,G2 ts,.i x.task,.b x.step,.b x.tick,.i x.c.kind,.i x.c.k.a,.i x.c.k.b,.i x.c.time,.i x.c.bucket,.i x.c.slot]:=by
  show [E 0,E 1,E 2,E 3,E 4,E 5,E 6,E 7,E 8,E 9,E 10,E 11,E 12,E 13,E 14]=_
  rw [e0,e1,e2,e3,e4,e5,e6,e7,e8,e9,e10,e11,e12,e13,e14]
 rw [el] at hp
 rw [el]
 rw [Env.bJ el]
 clear el e0 e1 e2 e3 e4 e5 e6 e7 e8 e9 e10 e11 e12 e13 e14
 have hown : ∀ t∈ts,t.own=false:=fun t ht=>(hts t ht).1
 simp only [d140,kr _ _ _ _ _ hown,List.drop_succ_cons,List.drop_zero,oe,aA,cz]
 have hx : (⟨x.task,x.step,x.tick,x.c⟩ : Pik)=x:=rfl
 rw [hx]
 unfold doW
 unfold t140
 refine ai d157 [.i (bL ⟨m,ts⟩)] rfl trivial (by simp only [nrm,xdn,reduceIte,Nat.reduceLT,Nat.reduceSub,Nat.reduceAdd,d157,kr _ _ _ _ _ hown,aA]) (G0 (fun h=>aj ?_) (fun h=>?_))
 ·simp only [nrm,xdn,reduceIte,Nat.reduceLT,Nat.reduceSub,Nat.reduceAdd] at h ⊢
  rw [if_pos (by simpa using h)]
  rfl
 simp only [nrm,xdn,reduceIte,Nat.reduceLT,Nat.reduceSub,Nat.reduceAdd] at h
 have h : bL ⟨m,ts⟩=0:=by simpa using h
 rw [if_neg (fun y=>y h)]
 have hw:=Is h
 refine ai d170 (Wrd.bm ⟨m,ts⟩).cds rfl trivial (by simp only [nrm,xdn,reduceIte,Nat.reduceLT,Nat.reduceSub,Nat.reduceAdd,d170,kr _ _ _ _ _ hown,aA]) ?_
 generalize hW : Wrd.bm ⟨m,ts⟩=W at *
 refine ag (by simp only [nrm,xdn,reduceIte,Nat.reduceLT,Nat.reduceSub,Nat.reduceAdd,Wrd.cds,Mem.cds,lca];exact aI _) (ai d171 ((bN W x).1.cds ++ [.i (bN W x).2]) rfl ?_ ?_ ?_)
 ·simp only [nrm,xdn,reduceIte,Nat.reduceLT,Nat.reduceSub,Nat.reduceAdd,Wrd.cds,Mem.cds,lca,d171,fX,aA]
  exact hw
 ·simp only [nrm,xdn,reduceIte,Nat.reduceLT,Nat.reduceSub,Nat.reduceAdd,Wrd.cds,Mem.cds,lca,d171,fX,aA,List.drop_succ_cons,List.drop_zero,oe,cz]
 generalize bN W x=r
 refine G0 (fun h1=>aj ?_) (fun h1=>?_)
 ·simp only [nrm,xdn,reduceIte,Nat.reduceLT,Nat.reduceSub,Nat.reduceAdd,Wrd.cds,Mem.cds,lca] at h1 ⊢
  rw [if_pos (by simpa using h1)]
  rfl
 simp only [nrm,xdn,reduceIte,Nat.reduceLT,Nat.reduceSub,Nat.reduceAdd,Wrd.cds,Mem.cds,lca] at h1
 rw [if_neg (by simpa using h1)]
 refine ag (by simp only [nrm,xdn,reduceIte,Nat.reduceLT,Nat.reduceSub,Nat.reduceAdd,Wrd.cds,Mem.cds,lca];exact aI _) (aj ?_)
 simp only [nrm,xdn,reduceIte,Nat.reduceLT,Nat.reduceSub,Nat.reduceAdd,Wrd.cds,Mem.cds,lca]
def idle : Tsk:=⟨false,Frm.none,[],true⟩
def iw (a b n : Int) : Wrd × Int :=
 if (dx a b).2≠0 then (Wrd.none,(dx a b).2)
 else if n < 1∨5 < n then (Wrd.none,3)
 else (⟨(dx a b).1,List.replicate n.toNat idle⟩,0)
def s78 : Sig:=⟨[.one (.int .i64),.one (.int .i64),.one (.int .i64)],[.agg [.own 52 kS,.own 3 kI,.own 3 kI,.own 3 kI,.int .i64,.own 129 kTo],.one (.int .i64)]⟩
def d78 : DC:=⟨s78,fun _=>True,fun l=>(iw (l.getD 0 .u).int (l.getD 1 .u).int (l.getD 2 .u).int).1.cds ++ [.i (iw (l.getD 0 .u).int (l.getD 1 .u).int (l.getD 2 .u).int).2]⟩
def l78 : List (Nat × Ct):=[(57,d57.ct)]
def z78 : Cx:={ T:=ttA,C:=sigs l78,F:=[],hints:=[],sig:=s78}
def t78 : Tree :=
 (.call 57 [.var 0,.var 1] 3
 (.ite (.not (.eq (.var 8) (.int 0)))
 (.ret [.nil,.nil,.nil,.nil,.int 0,.nil,.var 8])
 (.ite (.lt (.var 2) (.int 1))
 (.ret [.nil,.nil,.nil,.nil,.int 0,.nil,.int 3])
 (.ite (.lt (.int 5) (.var 2))
 (.ret [.nil,.nil,.nil,.nil,.int 0,.nil,.int 3])
 (.need (.le (.int 0) (.var 2))
 (.need (.le (.var 2) (.int 879609302220))
 (.need (.le (.var 2) (.len (.rep (.var 2) (.cons (.bool false) (.cons (.int 0) (.cons (.int 0) (.cons (.int 0) (.cons (.int 0) (.cons (.int 0) (.cons (.int 0) (.cons (.int 0) (.cons (.int 0) (.cons (.int 0) (.cons (.int 0) (.cons (.int 0) (.cons .nil (.cons (.bool false) (.cons (.int 0) (.cons (.own .nil) .row0)))))))))))))))))))
 (.need (.clean (.rep (.var 2) (.cons (.bool false) (.cons (.int 0) (.cons (.int 0) (.cons (.int 0) (.cons (.int 0) (.cons (.int 0) (.cons (.int 0) (.cons (.int 0) (.cons (.int 0) (.cons (.int 0) (.cons (.int 0) (.cons (.int 0) (.cons .nil (.cons (.bool false) (.cons (.int 0) (.cons (.own .nil) .row0))))))))))))))))) 15)
 (.ret [.var 3,.var 4,.var 5,.var 6,.var 7,.take (.var 2) (.rep (.var 2) (.cons (.bool false) (.cons (.int 0) (.cons (.int 0) (.cons (.int 0) (.cons (.int 0) (.cons (.int 0) (.cons (.int 0) (.cons (.int 0) (.cons (.int 0) (.cons (.int 0) (.cons (.int 0) (.cons (.int 0) (.cons .nil (.cons (.bool false) (.cons (.int 0) (.cons (.own .nil) .row0))))))))))))))))),.int 0])))))))))
theorem run78 : run z78 6000 [.code (Try.f78.body.getD .skip),.fin (bt z78 Try.f78.results.toList 50)] { fn:=78,tmps:=z78.sig.aM ++ List.replicate (Try.f78.ntmps - z78.sig.aM.length) (.v (.one .undef)),stk:=[],h:=z78.sig.h0,nx:=z78.sig.ins.length,known:=[]}=t78:=by kernel_rfl
theorem ok78 : cB Try.prog 78 d78.ct:=by
 refine aD (d:=d78) (Z:=z78) (Γ:=gam l78) (fn:=Try.f78) (c:=Try.f78.body.getD .skip) (bg tok mixed (all_cons ok57 all_nil) bh) Try.func78 (by kernel_rfl) (by kernel_rfl) rfl run78 fun E hk hp=>?_
 obtain ⟨hk0,hk1,hk2,_⟩:=hk
 obtain ⟨x,e0⟩:=ok_int (d:=E 0) hk0
 obtain ⟨x2,e1⟩:=ok_int (d:=E 1) hk1
 obtain ⟨x3,e2⟩:=ok_int (d:=E 2) hk2
 have el : aH E d78.sig.ins.length=[.i x,.i x2,.i x3]:=by
  show [E 0,E 1,E 2]=_
  rw [e0,e1,e2]
 rw [el] at hp
 rw [el]
 rw [Env.bJ el]
 clear el e0 e1 e2
 simp only [d78,List.getD_cons_zero,List.getD_cons_succ,CD.aR]
 unfold iw
 unfold t78
 refine ai d57 ((dx x x2).1.cds ++ [.i (dx x x2).2]) rfl trivial (by simp only [nrm,xdn,reduceIte,Nat.reduceLT,Nat.reduceSub,Nat.reduceAdd,d57]) ?_
 generalize dx x x2=r
 refine G0 (fun h=>aj ?_) (fun h=>G0 (fun h1=>aj ?_) (fun h1=>G0 (fun h2=>aj ?_) (fun h2=>?_)))
 ·simp only [nrm,xdn,reduceIte,Nat.reduceLT,Nat.reduceSub,Nat.reduceAdd,Mem.cds,lca] at h ⊢
  rw [if_pos (by simpa using h)];rfl
 ·simp only [nrm,xdn,reduceIte,Nat.reduceLT,Nat.reduceSub,Nat.reduceAdd,Mem.cds,lca] at h h1 ⊢
  rw [if_neg (by simpa using h),if_pos (.inl h1)];rfl
 ·simp only [nrm,xdn,reduceIte,Nat.reduceLT,Nat.reduceSub,Nat.reduceAdd,Mem.cds,lca] at h h2 ⊢
  rw [if_neg (by simpa using h),if_pos (.inr h2)];rfl
 simp only [nrm,xdn,reduceIte,Nat.reduceLT,Nat.reduceSub,Nat.reduceAdd,Mem.cds,lca] at h h1 h2
 rw [if_neg (by simpa using h),if_neg (fun y=>y.elim h1 h2)]
 obtain ⟨k,rfl⟩ : ∃ k : Nat,x3=k:=⟨x3.toNat,by omega⟩
 have hrow : CD.l (List.replicate k [.b false,.i 0,.i 0,.i 0,.i 0,.i 0,.i 0,.i 0,.i 0,.i 0,.i 0,.i 0,.l [],.b false,.i 0,.o []])=az (List.replicate k idle):=by
  simp only [az,List.map_replicate];rfl
 refine ag (by simp only [nrm,xdn,reduceIte,Nat.reduceLT,Nat.reduceSub,Nat.reduceAdd];omega) (ag (by simp only [nrm,xdn,reduceIte,Nat.reduceLT,Nat.reduceSub,Nat.reduceAdd];omega) (ag ?_ (ag ?_ (aj ?_))))
 ·simp only [nrm,xdn,reduceIte,Nat.reduceLT,Nat.reduceSub,Nat.reduceAdd,CD.row,List.headD_cons,Int.toNat_natCast,List.length_replicate,Mem.cds,lca];omega
 ·simp only [nrm,xdn,reduceIte,Nat.reduceLT,Nat.reduceSub,Nat.reduceAdd,CD.row,CD.ax,List.headD_cons,Int.toNat_natCast,Mem.cds,lca]
  exact cls hrow
 ·simp only [nrm,xdn,reduceIte,Nat.reduceLT,Nat.reduceSub,Nat.reduceAdd,CD.row,CD.ax,List.headD_cons,Int.toNat_natCast,Mem.cds,lca,Wrd.cds]
  rw [List.take_of_length_le (by simp),hrow]
def qw (w : Wrd) : List cI × Int:=if bL w≠0 then ([],bL w) else jM w.m
def s134 : Sig:=⟨[.agg [.fz kS,.fz kI,.fz kI,.fz kI,.int .i64,.fz kT]],[.one (.own 78 kW),.one (.int .i64)]⟩
def d134 : DC:=⟨s134,fun _=>True,fun l=>[eM (qw (Wrd.of l)).1,.i (qw (Wrd.of l)).2]⟩
def l134 : List (Nat × Ct):=[(157,d157.ct),(71,d71.ct)]
def z134 : Cx:={ T:=ttA,C:=sigs l134,F:=[],hints:=[],sig:=s134}
def t134 : Tree :=
 (.call 157 [.var 0,.var 1,.var 2,.var 3,.var 4,.var 5] 6
 (.ite (.not (.eq (.var 6) (.int 0)))
 (.ret [.nil,.var 6])
 (.call 71 [.var 0,.var 1,.var 2,.var 3,.var 4] 7
 (.ret [.var 7,.var 8]))))
theorem run134 : run z134 6000 [.code (Try.f134.body.getD .skip),.fin (bt z134 Try.f134.results.toList 50)] { fn:=134,tmps:=z134.sig.aM ++ List.replicate (Try.f134.ntmps - z134.sig.aM.length) (.v (.one .undef)),stk:=[],h:=z134.sig.h0,nx:=z134.sig.ins.length,known:=[]}=t134:=by kernel_rfl
theorem ok134 : cB Try.prog 134 d134.ct:=by
 refine aD (d:=d134) (Z:=z134) (Γ:=gam l134) (fn:=Try.f134) (c:=Try.f134.body.getD .skip) (bg tok mixed (all_cons ok157 (all_cons ok71 all_nil)) bh) Try.func134 (by kernel_rfl) (by kernel_rfl) rfl run134 fun E hk hp=>?_
 obtain ⟨hk0,hk1,hk2,hk3,hk4,hk5,_⟩:=hk
 obtain ⟨m,e0,e1,e2,e3,e4,b0,b1,b2,b3⟩:=cv (d0:=E 0) (d1:=E 1) (d2:=E 2) (d3:=E 3) (d4:=E 4) hk0 hk1 hk2 hk3 hk4
 obtain ⟨ts,e5,hts,b5⟩:=hU (d:=E 5) hk5
 have b5 : ts.length * 160≤140737488355328:=b5
 have el : aH E d134.sig.ins.length=[au m.slots,af m.heads,af m.free,af m.ae,.i m.now,G2 ts]:=by
  show [E 0,E 1,E 2,E 3,E 4,E 5]=_
  rw [e0,e1,e2,e3,e4,e5]
 rw [el] at hp
 rw [el]
 rw [Env.bJ el]
 clear el e0 e1 e2 e3 e4 e5
 have hown : ∀ t∈ts,t.own=false:=fun t ht=>(hts t ht).1
 simp only [d134,kr _ _ _ _ _ hown,aA]
 unfold qw
 unfold t134
 refine ai d157 [.i (bL ⟨m,ts⟩)] rfl trivial (by simp only [nrm,xdn,reduceIte,Nat.reduceLT,Nat.reduceSub,Nat.reduceAdd,d157,kr _ _ _ _ _ hown,aA]) (G0 (fun h=>aj ?_) (fun h=>?_))
 ·simp only [nrm,xdn,reduceIte,Nat.reduceLT,Nat.reduceSub,Nat.reduceAdd] at h ⊢
  rw [if_pos (by simpa using h)];rfl
 simp only [nrm,xdn,reduceIte,Nat.reduceLT,Nat.reduceSub,Nat.reduceAdd] at h
 rw [if_neg (by simpa using h)]
 refine ai d71 [eM (jM m).1,.i (jM m).2] rfl trivial (by simp only [nrm,xdn,reduceIte,Nat.reduceLT,Nat.reduceSub,Nat.reduceAdd,d71,mem_of,aA]) (aj ?_)
 simp only [nrm,xdn,reduceIte,Nat.reduceLT,Nat.reduceSub,Nat.reduceAdd]
end Go.Proofs.Ytpmamacjepcdmaa

namespace Go.Proofs.Ytpmamacjepcdmaa
open Go Go.Sy Go.RowKit
set_option linter.unusedSimpArgs false
set_option linter.unusedVariables false
structure kq (n : Nat) (w : Wrd) : Prop where
 m : aZ w.m
 t : ∀ t∈w.ts,t.own=true∧t.held.length≤n∧(t.busy=true→bV w.m t.f)
theorem kq.in {n : Nat} {w : Wrd} (h : kq n w) (hn : n≤10000) : WIn w:=⟨h.m,fun t ht=>⟨(h.t t ht).1,by have:=(h.t t ht).2.1;omega,(h.t t ht).2.2⟩⟩
theorem kq.mono {n k : Nat} {w : Wrd} (h : kq n w) (hn : n≤k) : kq k w:=⟨h.m,fun t ht=>⟨(h.t t ht).1,by have:=(h.t t ht).2.1;omega,(h.t t ht).2.2⟩⟩
theorem EB {w : Wrd} (h : bL w=0) : kq 100 w.bm:=by
 unfold bL at h
 split at h
 ·rename_i h1;exact absurd h h1
 ·rename_i h1
  split at h
  ·cases h
  ·refine ⟨((dT w.m).1 (Classical.not_not.1 h1)).rJ,fun t ht=>?_⟩
   obtain ⟨u,hu,rfl⟩:=List.mem_map.1 ht
   obtain ⟨k1,_,k2⟩:=sv (lS h u hu)
   exact ⟨rfl,k1,k2⟩
theorem bV.len {m x : Mem} {f : Frm} (h : bV m f) (h1 : x.slots.length=m.slots.length) (h2 : x.heads.length=m.heads.length) : bV x f :=
 h.with h1 h2 rfl h.nd ⟨h.pc0,h.pc9⟩ ⟨h.n0,h.n9⟩ ⟨h.cur0,h.cur1⟩ ⟨h.prev0,h.prev1⟩ ⟨h.slot0,h.slot1⟩ h.keys
theorem AS {g : Tsk→Tsk} {u : Tsk} : ∀ {l : List Tsk} {i : Nat},u∈l.modify i g→u∈l∨(i < l.length∧u=g (l.getD i default))
 | [],i,h=>by simp at h
 | a :: l,0,h=>by
  rcases List.mem_cons.1 (by simpa using h : u∈g a :: l) with e | h
  ·exact .inr ⟨by simp,e⟩
  ·exact .inl (List.mem_cons_of_mem _ h)
 | a :: l,i + 1,h=>by
  rcases List.mem_cons.1 (by simpa using h : u∈a :: l.modify i g) with e | h
  ·exact .inl (by rw [e];exact List.mem_cons_self)
  ·rcases AS h with h | ⟨h1,h2⟩
   ·exact .inl (List.mem_cons_of_mem _ h)
   ·exact .inr ⟨by simpa using h1,by simpa using h2⟩
theorem Bj {n : Nat} {w : Wrd} (h : kq n w) (x : Int) {m' : Mem} (hm : aZ m') (l1 : m'.slots.length=w.m.slots.length) (l2 : m'.heads.length=w.m.heads.length) {g : Tsk→Tsk}
  (hg : tsk w x∈w.ts→(g (tsk w x)).own=true∧(g (tsk w x)).held.length≤n + 1∧((g (tsk w x)).busy=true→bV m' (g (tsk w x)).f)) : kq (n + 1) ⟨m',w.ts.modify x.toNat g⟩ :=
 ⟨hm,fun u hu=>by
  rcases AS hu with hu | ⟨hl,rfl⟩
  ·obtain ⟨k1,k2,k3⟩:=h.t u hu
   exact ⟨k1,by omega,fun hb=>(k3 hb).len l1 l2⟩
  ·exact hg (fc hl)⟩
theorem pz {n : Nat} {w : Wrd} (h : kq n w) (x : Int) {r : Frm × Mem} (hm : aZ r.2) (l1 : r.2.slots.length=w.m.slots.length) (l2 : r.2.heads.length=w.m.heads.length) (hf : r.1.done=false→bV r.2 r.1) : kq (n + 1) (w.gone x r) :=
 Bj h x hm l1 l2 fun ht=>⟨(h.t _ ht).1,by have:=(h.t _ ht).2.1;exact Nat.le_succ_of_le this,fun hb=>hf (by simpa using hb)⟩
theorem Dn {m : Mem} {c : Cal} (hc : bf m c=0) : bV m (aX c) :=
 ⟨hc,(by decide : (0 : Int)≤0),(by decide : (0 : Int)≤9),(by decide : (0 : Int)≤0),(by decide : (0 : Int)≤1000000),rfl,by show -(m.heads.length : Int)≤0;omega,by show (0 : Int)≤_;omega,(by decide : (0 : Int)≤0),by show (0 : Int)≤_;omega,(by decide : (-1 : Int)≤-1),by show (-1 : Int) < _;omega,by show 0≤100;omega⟩
theorem D9 {n : Nat} {w : Wrd} (h : kq n w) (x : Int) (c : Cal) : kq (n + 1) (eR w x c).1:=by
 unfold eR
 split
 ·exact h.mono (by omega)
 ·split
  ·exact h.mono (by omega)
  ·rename_i hc
   split
   ·exact h.mono (by omega)
   ·split
    ·exact h.mono (by omega)
    ·have hc : bf w.m c=0:=Classical.not_not.1 hc
     refine Bj h x h.m rfl rfl fun ht=>⟨(h.t _ ht).1,by have:=(h.t _ ht).2.1;exact Nat.le_succ_of_le this,fun _=>?_⟩
     exact Dn hc
theorem EE {n : Nat} {w : Wrd} (h : kq n w) {x : Int} (hx : tsk w x∈w.ts) : kq (n + 1) (cN w x).1:=by
 unfold cN
 split
 ·exact h.mono (by omega)
 rename_i hb
 obtain ⟨k1,k2,k3⟩:=h.t _ hx
 have hf:=k3 (by simpa using hb)
 have hm:=h.m
 split
 ·rename_i hk
  have ht:=(mg (m:=w.m) (f:=(tsk w x).f)).1
  split
  ·rename_i hd
   refine Bj h x (nI hm hf) ht.len ht.hl fun _=>⟨k1,by simp only [List.length_append,List.length_cons,List.length_nil];omega,fun hb=>?_⟩
   rw [hd.1] at hb;cases hb
  ·exact pz h x (nI hm hf) ht.len ht.hl fun hd=>(qV hm hf hk).ok hf ht hd
 split
 ·rename_i _ hk
  have ht:=gW x hm hf hk
  exact pz h x (wE x hm hf hk) ht.len ht.hl fun hd=>(ud x hm hf hk).ok hf ht hd
 split
 ·rename_i _ _ hk
  have ht:=gz x hm hf hk
  exact pz h x (uy x hm hf) ht.len ht.hl fun hd=>(rk x hm hf hk).ok hf ht hd
 split
 ·rename_i _ _ _ hk
  have ht:=fF x hm hf hk
  exact pz h x (sB x hm hf) ht.len ht.hl fun hd=>(oT x hm hf hk).ok hf ht hd
 rename_i q1 q2 q3 q4
 split
 ·have h6 : (tsk w x).f.c.kind=6∧0≤(tsk w x).f.c.slot∧(tsk w x).f.c.slot < w.m.slots.length:=by
   have:=hf.call
   unfold bf at this
   rw [if_neg (by omega),if_neg (by omega),if_neg (by omega)] at this
   split at this
   ·split at this
    ·cases this
    ·exact ⟨by assumption,by omega,by omega⟩
   ·cases this
  obtain ⟨l1,l2,_⟩:=jw w.m (tsk w x).f.c.slot
  refine Bj h x (hm.put h6.2.1 h6.2.2) l1 (by rw [l2]) fun _=>⟨k1,?_,fun hb=>?_⟩
  ·simp only [List.length_append,List.length_take,List.length_drop]
   omega
  ·cases hb
 ·exact pz h x hm rfl rfl fun hd=>by cases hd
theorem aZ.tick {m : Mem} (hm : aZ m) {n : Int} (h0 : 0≤n) (h1 : n≤1000000) : aZ { m with now:=n} :=
 ⟨⟨hm.fx.ns,hm.fx.nh1,hm.fx.nh4,hm.fx.nl,h0,h1,hm.fx.slot,hm.fx.head,hm.fx.free,hm.fx.nodup,hm.fx.leak⟩,hm.nl,hm.hd⟩
theorem EJ {n : Nat} {w : Wrd} (h : kq n w) (x : Pik) : kq (n + 1) (bN w x).1:=by
 unfold bN
 split
 ·split
  ·exact h.mono (by omega)
  ·have h0:=h.m.ma
   have h1:=h.m.Ik
   refine ⟨h.m.tick (by omega) (by omega),fun t ht=>?_⟩
   obtain ⟨k1,k2,k3⟩:=h.t t ht
   exact ⟨k1,by omega,fun hb=>(k3 hb).len rfl rfl⟩
 ·split
  ·exact h.mono (by omega)
  ·rename_i hx
   split
   ·exact EE h (fc (by omega))
   ·exact D9 h _ _
end Go.Proofs.Ytpmamacjepcdmaa
