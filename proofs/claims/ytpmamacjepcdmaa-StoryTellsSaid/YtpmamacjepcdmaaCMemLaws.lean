import Derived.Test.YtpmamacjepcdmaaCChain4
import Derived.Test.YtpmamacjepcdmaaCWorldChk
import Derived.Test.YtpmamacjepcdmaaCRef
namespace Go.Proofs.Ytpmamacjepcdmaa
open Go Go.Sy Go.RowKit
set_option linter.unusedSimpArgs false
set_option linter.unusedVariables false
structure WIn (w : Wrd) : Prop where
 m : aO w.m
 t : ∀ t∈w.ts,t.own=true∧t.held.length≤10000∧(t.busy=true→bL w.m t.f)
def cJ (w : Wrd) (x : Pik) : Wrd × Int :=
 if x.tick=true then (if w.m.now=1000000 then (w,7) else (⟨{ w.m with now:=w.m.now + 1},w.ts⟩,0))
 else if x.task < 0∨(w.ts.length : Int)≤x.task then (w,5)
 else if x.step=true then jo w x.task
 else gy w x.task x.c
def s171 : Sig:=⟨[.ptr [.own 52 kS,.own 3 kI,.own 3 kI,.own 3 kI,.int .i64,.own 129 kTo],.agg [.int .i64,.bool,.bool,.int .i64,.int .i64,.int .i64,.int .i64,.int .i64,.int .i64]],[.one (.int .i64)]⟩
def d171 : DC:=⟨s171,fun l=>WIn (Wrd.of l),fun l=>(cJ (Wrd.of l) (Pik.of (l.drop 6))).1.cds ++ [.i (cJ (Wrd.of l) (Pik.of (l.drop 6))).2]⟩
theorem eW (a : Int) (b c : Bool) (d e f g h i : Int) (l : List CD) : Pik.of (.i a :: .b b :: .b c :: .i d :: .i e :: .i f :: .i g :: .i h :: .i i :: l)=⟨a,b,c,⟨d,⟨e,f⟩,g,h,i⟩⟩:=rfl
def l171 : List (Nat × Ct):=[(208,d208.ct),(209,d209.ct)]
def z171 : Cx:={ T:=ttA,C:=sigs l171,F:=[],hints:=[],sig:=s171}
def t171 : Tree :=
 (.ite (.var 8)
 (.ite (.eq (.var 4) (.int 1000000))
 (.need (.clean (.var 5) 15)
 (.ret [.var 0,.var 1,.var 2,.var 3,.var 4,.var 5,.int 7]))
 (.need (.fit (.add (.var 4) (.int 1)))
 (.need (.clean (.var 5) 15)
 (.ret [.var 0,.var 1,.var 2,.var 3,.add (.var 4) (.int 1),.var 5,.int 0]))))
 (.ite (.lt (.var 6) (.int 0))
 (.need (.clean (.var 5) 15)
 (.ret [.var 0,.var 1,.var 2,.var 3,.var 4,.var 5,.int 5]))
 (.ite (.le (.len (.var 5)) (.var 6))
 (.need (.clean (.var 5) 15)
 (.ret [.var 0,.var 1,.var 2,.var 3,.var 4,.var 5,.int 5]))
 (.ite (.var 7)
 (.need (.clean (.var 5) 15)
 (.call 208 [.var 0,.var 1,.var 2,.var 3,.var 4,.var 5,.var 6] 15
 (.need (.clean (.var 20) 15)
 (.ret [.var 15,.var 16,.var 17,.var 18,.var 19,.var 20,.var 21]))))
 (.need (.clean (.var 5) 15)
 (.call 209 [.var 0,.var 1,.var 2,.var 3,.var 4,.var 5,.var 6,.var 9,.var 10,.var 11,.var 12,.var 13,.var 14] 15
 (.need (.clean (.var 20) 15)
 (.ret [.var 15,.var 16,.var 17,.var 18,.var 19,.var 20,.var 21]))))))))
theorem run171 : run z171 6000 [.code (Try.f171.body.getD .skip),.fin (aP z171 Try.f171.results.toList 50)] { fn:=171,tmps:=z171.sig.aE ++ List.replicate (Try.f171.ntmps - z171.sig.aE.length) (.v (.one .undef)),stk:=[],h:=z171.sig.h0,nx:=z171.sig.ins.length,known:=[]}=t171:=by kernel_rfl
theorem ok171 : bJ Try.prog 171 d171.ct:=by
 refine ax (d:=d171) (Z:=z171) (Γ:=gam l171) (fn:=Try.f171) (c:=Try.f171.body.getD .skip) (aJ tok mixed (all_cons ok208 (all_cons ok209 all_nil)) aK) Try.func171 (by kernel_rfl) (by kernel_rfl) rfl run171 fun E hk hp=>?_
 obtain ⟨hk0,hk1,hk2,hk3,hk4,hk5,hk6,hk7,hk8,hk9,hk10,hk11,hk12,hk13,hk14,_⟩:=hk
 obtain ⟨m,e0,e1,e2,e3,e4,b0,b1,b2,b3⟩:=bp (d0:=E 0) (d1:=E 1) (d2:=E 2) (d3:=E 3) (d4:=E 4) hk0 hk1 hk2 hk3 hk4
 obtain ⟨ts,e5,hts,b5⟩:=mB (d:=E 5) hk5
 have b5 : ts.length * 160≤140737488355328:=b5
 obtain ⟨x,e6,e7,e8,e9,e10,e11,e12,e13,e14⟩:=lS (d0:=E 6) (d1:=E 7) (d2:=E 8) (d3:=E 9) (d4:=E 10) (d5:=E 11) (d6:=E 12) (d7:=E 13) (d8:=E 14) hk6 hk7 hk8 hk9 hk10 hk11 hk12 hk13 hk14
 have el : aG E d171.sig.ins.length=[ai m.slots,aa m.heads,aa m.free,aa m.locks,.i m.now,ar ts,.i x.task,.b x.step,.b x.tick,.i x.c.kind,.i x.c.k.a,.i x.c.k.b,.i x.c.time,.i x.c.bucket,.i x.c.slot]:=by
  show [E 0,E 1,E 2,E 3,E 4,E 5,E 6,E 7,E 8,E 9,E 10,E 11,E 12,E 13,E 14]=_
  rw [e0,e1,e2,e3,e4,e5,e6,e7,e8,e9,e10,e11,e12,e13,e14]
 rw [el] at hp
 rw [el]
 rw [Env.aU el]
 clear el e0 e1 e2 e3 e4 e5 e6 e7 e8 e9 e10 e11 e12 e13 e14
 simp only [d171,eQ,List.drop_succ_cons,List.drop_zero,eW,aq,bF] at hp ⊢
 have hn:=hp.m.oM
 have hn0:=hp.m.oN
 unfold cJ
 unfold t171
 refine ae (fun h=>?_) (fun h=>?_)
 ·simp only [nrm,xdn,reduceIte,Nat.reduceLT,Nat.reduceSub,Nat.reduceAdd] at h
  rw [if_pos h]
  refine ae (fun h1=>?_) (fun h1=>?_)
  ·simp only [nrm,xdn,reduceIte,Nat.reduceLT,Nat.reduceSub,Nat.reduceAdd] at h1
   rw [if_pos h1]
   refine af (by simp only [nrm,xdn,reduceIte,Nat.reduceLT,Nat.reduceSub,Nat.reduceAdd];exact az ts) (ag ?_)
   simp only [nrm,xdn,reduceIte,Nat.reduceLT,Nat.reduceSub,Nat.reduceAdd,Wrd.cds,Mem.cds,lca]
  ·simp only [nrm,xdn,reduceIte,Nat.reduceLT,Nat.reduceSub,Nat.reduceAdd] at h1
   rw [if_neg h1]
   have hn : m.now≤1000000:=hn
   have hn0 : 0≤m.now:=hn0
   refine aH (by simp only [nrm,xdn,reduceIte,Nat.reduceLT,Nat.reduceSub,Nat.reduceAdd];omega) (af (by simp only [nrm,xdn,reduceIte,Nat.reduceLT,Nat.reduceSub,Nat.reduceAdd];exact az ts) (ag ?_))
   simp only [nrm,xdn,reduceIte,Nat.reduceLT,Nat.reduceSub,Nat.reduceAdd,Wrd.cds,Mem.cds,lca]
 simp only [nrm,xdn,reduceIte,Nat.reduceLT,Nat.reduceSub,Nat.reduceAdd] at h
 rw [if_neg (by rw [h];exact Bool.false_ne_true)]
 refine ae (fun h1=>?_) (fun h1=>ae (fun h2=>?_) (fun h2=>?_))
 ·simp only [nrm,xdn,reduceIte,Nat.reduceLT,Nat.reduceSub,Nat.reduceAdd] at h1
  rw [if_pos (.inl h1)]
  refine af (by simp only [nrm,xdn,reduceIte,Nat.reduceLT,Nat.reduceSub,Nat.reduceAdd];exact az ts) (ag ?_)
  simp only [nrm,xdn,reduceIte,Nat.reduceLT,Nat.reduceSub,Nat.reduceAdd,Wrd.cds,Mem.cds,lca]
 ·simp only [nrm,xdn,reduceIte,Nat.reduceLT,Nat.reduceSub,Nat.reduceAdd,cC] at h2
  rw [if_pos (.inr h2)]
  refine af (by simp only [nrm,xdn,reduceIte,Nat.reduceLT,Nat.reduceSub,Nat.reduceAdd];exact az ts) (ag ?_)
  simp only [nrm,xdn,reduceIte,Nat.reduceLT,Nat.reduceSub,Nat.reduceAdd,Wrd.cds,Mem.cds,lca]
 simp only [nrm,xdn,reduceIte,Nat.reduceLT,Nat.reduceSub,Nat.reduceAdd,cC] at h1 h2
 rw [if_neg (fun y=>y.elim h1 h2)]
 refine ae (fun h3=>?_) (fun h3=>?_)
 ·simp only [nrm,xdn,reduceIte,Nat.reduceLT,Nat.reduceSub,Nat.reduceAdd] at h3
  rw [if_pos h3]
  refine af (by simp only [nrm,xdn,reduceIte,Nat.reduceLT,Nat.reduceSub,Nat.reduceAdd];exact az ts) (ah d208 ((jo ⟨m,ts⟩ x.task).1.cds ++ [.i (jo ⟨m,ts⟩ x.task).2]) rfl ?_ (by simp only [nrm,xdn,reduceIte,Nat.reduceLT,Nat.reduceSub,Nat.reduceAdd,d208,eQ,aq]) ?_)
  ·simp only [nrm,xdn,reduceIte,Nat.reduceLT,Nat.reduceSub,Nat.reduceAdd,d208,eQ,aq]
   have hg : tsk ⟨m,ts⟩ x.task∈ts:=dn (by omega)
   exact ⟨by omega,by omega,fun t ht=>⟨(hp.t t ht).1,(hp.t t ht).2.1⟩,hp.m,(hp.t _ hg).2.2⟩
  generalize jo ⟨m,ts⟩ x.task=r
  refine af (by simp only [nrm,xdn,reduceIte,Nat.reduceLT,Nat.reduceSub,Nat.reduceAdd,Wrd.cds,Mem.cds,lca];exact az _) (ag ?_)
  simp only [nrm,xdn,reduceIte,Nat.reduceLT,Nat.reduceSub,Nat.reduceAdd,Wrd.cds,Mem.cds,lca]
 ·simp only [nrm,xdn,reduceIte,Nat.reduceLT,Nat.reduceSub,Nat.reduceAdd] at h3
  rw [if_neg (by rw [h3];exact Bool.false_ne_true)]
  refine af (by simp only [nrm,xdn,reduceIte,Nat.reduceLT,Nat.reduceSub,Nat.reduceAdd];exact az ts) (ah d209 ((gy ⟨m,ts⟩ x.task x.c).1.cds ++ [.i (gy ⟨m,ts⟩ x.task x.c).2]) rfl ?_ (by simp only [nrm,xdn,reduceIte,Nat.reduceLT,Nat.reduceSub,Nat.reduceAdd,d209,eQ,aq,List.drop_succ_cons,List.drop_zero,dz,bF]) ?_)
  ·simp only [nrm,xdn,reduceIte,Nat.reduceLT,Nat.reduceSub,Nat.reduceAdd,d209,eQ,aq]
   exact ⟨by omega,by omega,fun t ht=>(hp.t t ht).1⟩
  generalize gy ⟨m,ts⟩ x.task x.c=r
  refine af (by simp only [nrm,xdn,reduceIte,Nat.reduceLT,Nat.reduceSub,Nat.reduceAdd,Wrd.cds,Mem.cds,lca];exact az _) (ag ?_)
  simp only [nrm,xdn,reduceIte,Nat.reduceLT,Nat.reduceSub,Nat.reduceAdd,Wrd.cds,Mem.cds,lca]
theorem jm {m : Mem} : ∀ {ts : List Tsk},cY m ts=0→∀ t∈ts,cK m t=0
 | [],_,_,h=>by cases h
 | t :: ts,h,u,hu=>by
  have h : (if cK m t≠0 then cK m t else cY m ts)=0:=h
  split at h
  ·rename_i h1;exact absurd h h1
  ·rename_i h1
   rcases List.mem_cons.1 hu with rfl | hu
   ·exact Classical.not_not.1 h1
   ·exact jm h u hu
theorem ou {m : Mem} {t : Tsk} (h : cK m t=0) : t.held.length≤100∧cS m.slots.length t.held=0∧(t.busy=true→bL m t.f):=by
 unfold cK at h
 split at h
 ·cases h
 ·split at h
  ·rename_i h1;exact absurd h h1
  ·rename_i h0 h1
   refine ⟨by omega,Classical.not_not.1 h1,fun hb=>?_⟩
   rw [if_pos hb] at h
   exact (pC m t.f).1 h
theorem iu {w : Wrd} (h : bE w=0) : WIn w.bU:=by
 unfold bE at h
 split at h
 ·rename_i h1;exact absurd h h1
 ·rename_i h1
  split at h
  ·cases h
  ·refine ⟨((fW w.m).1 (Classical.not_not.1 h1)).into,fun t ht=>?_⟩
   obtain ⟨u,hu,rfl⟩:=List.mem_map.1 ht
   obtain ⟨k1,_,k2⟩:=ou (jm h u hu)
   exact ⟨rfl,by show u.held.length≤_;omega,k2⟩
def doW (w : Wrd) (x : Pik) : Wrd × Int :=
 if bE w≠0 then (Wrd.none,bE w)
 else if (cJ w.bU x).2≠0 then (Wrd.none,(cJ w.bU x).2)
 else ((cJ w.bU x).1,0)
def s140 : Sig:=⟨[.agg [.fz kS,.fz kI,.fz kI,.fz kI,.int .i64,.fz kT],.agg [.int .i64,.bool,.bool,.int .i64,.int .i64,.int .i64,.int .i64,.int .i64,.int .i64]],[.agg [.own 52 kS,.own 3 kI,.own 3 kI,.own 3 kI,.int .i64,.own 129 kTo],.one (.int .i64)]⟩
def d140 : DC:=⟨s140,fun _=>True,fun l=>(doW (Wrd.of l) (Pik.of (l.drop 6))).1.cds ++ [.i (doW (Wrd.of l) (Pik.of (l.drop 6))).2]⟩
theorem bW (a : List bq) (b c d : List Int) (n : Int) {ts : List Tsk} (h : ∀ t∈ts,t.own=false) (l : List CD) : Wrd.of (ai a :: aa b :: aa c :: aa d :: .i n :: aA ts :: l)=⟨⟨a,b,c,d,n⟩,ts⟩:=by
 rw [iw h];exact eQ a b c d n ts l
def l140 : List (Nat × Ct):=[(157,d157.ct),(170,d170.ct),(171,d171.ct)]
def z140 : Cx:={ T:=ttA,C:=sigs l140,F:=[],hints:=[],sig:=s140}
def t140 : Tree :=
 (.call 157 [.var 0,.var 1,.var 2,.var 3,.var 4,.var 5] 15
 (.ite (.not (.eq (.var 15) (.int 0)))
 (.ret [.nil,.nil,.nil,.nil,.int 0,.nil,.var 15])
 (.call 170 [.var 0,.var 1,.var 2,.var 3,.var 4,.var 5] 16
 (.need (.clean (.var 21) 15)
 (.call 171 [.var 16,.var 17,.var 18,.var 19,.var 20,.var 21,.var 6,.var 7,.var 8,.var 9,.var 10,.var 11,.var 12,.var 13,.var 14] 22
 (.ite (.not (.eq (.var 28) (.int 0)))
 (.ret [.nil,.nil,.nil,.nil,.int 0,.nil,.var 28])
 (.need (.clean (.var 27) 15)
 (.ret [.var 22,.var 23,.var 24,.var 25,.var 26,.var 27,.int 0]))))))))
theorem run140 : run z140 6000 [.code (Try.f140.body.getD .skip),.fin (aP z140 Try.f140.results.toList 50)] { fn:=140,tmps:=z140.sig.aE ++ List.replicate (Try.f140.ntmps - z140.sig.aE.length) (.v (.one .undef)),stk:=[],h:=z140.sig.h0,nx:=z140.sig.ins.length,known:=[]}=t140:=by kernel_rfl
theorem ok140 : bJ Try.prog 140 d140.ct:=by
 refine ax (d:=d140) (Z:=z140) (Γ:=gam l140) (fn:=Try.f140) (c:=Try.f140.body.getD .skip) (aJ tok mixed (all_cons ok157 (all_cons ok170 (all_cons ok171 all_nil))) aK) Try.func140 (by kernel_rfl) (by kernel_rfl) rfl run140 fun E hk hp=>?_
 obtain ⟨hk0,hk1,hk2,hk3,hk4,hk5,hk6,hk7,hk8,hk9,hk10,hk11,hk12,hk13,hk14,_⟩:=hk
 obtain ⟨m,e0,e1,e2,e3,e4,b0,b1,b2,b3⟩:=bp (d0:=E 0) (d1:=E 1) (d2:=E 2) (d3:=E 3) (d4:=E 4) hk0 hk1 hk2 hk3 hk4
 obtain ⟨ts,e5,hts,b5⟩:=dB (d:=E 5) hk5
 have b5 : ts.length * 160≤140737488355328:=b5
 obtain ⟨x,e6,e7,e8,e9,e10,e11,e12,e13,e14⟩:=lS (d0:=E 6) (d1:=E 7) (d2:=E 8) (d3:=E 9) (d4:=E 10) (d5:=E 11) (d6:=E 12) (d7:=E 13) (d8:=E 14) hk6 hk7 hk8 hk9 hk10 hk11 hk12 hk13 hk14
 have el : aG E d140.sig.ins.length=[ai m.slots,aa m.heads,aa m.free,aa m.locks,.i m.now,aA ts,.i x.task,.b x.step,.b x.tick,.i x.c.kind,.i x.c.k.a,.i x.c.k.b,.i x.c.time,.i x.c.bucket,.i x.c.slot]:=by
  show [E 0,E 1,E 2,E 3,E 4,E 5,E 6,E 7,E 8,E 9,E 10,E 11,E 12,E 13,E 14]=_
  rw [e0,e1,e2,e3,e4,e5,e6,e7,e8,e9,e10,e11,e12,e13,e14]
 rw [el] at hp
 rw [el]
 rw [Env.aU el]
 clear el e0 e1 e2 e3 e4 e5 e6 e7 e8 e9 e10 e11 e12 e13 e14
 have hown : ∀ t∈ts,t.own=false:=fun t ht=>(hts t ht).1
 simp only [d140,bW _ _ _ _ _ hown,List.drop_succ_cons,List.drop_zero,eW,aq,bF]
 have hx : (⟨x.task,x.step,x.tick,x.c⟩ : Pik)=x:=rfl
 rw [hx]
 unfold doW
 unfold t140
 refine ah d157 [.i (bE ⟨m,ts⟩)] rfl trivial (by simp only [nrm,xdn,reduceIte,Nat.reduceLT,Nat.reduceSub,Nat.reduceAdd,d157,bW _ _ _ _ _ hown,aq]) (ae (fun h=>ag ?_) (fun h=>?_))
 ·simp only [nrm,xdn,reduceIte,Nat.reduceLT,Nat.reduceSub,Nat.reduceAdd] at h ⊢
  rw [if_pos (by simpa using h)]
  rfl
 simp only [nrm,xdn,reduceIte,Nat.reduceLT,Nat.reduceSub,Nat.reduceAdd] at h
 have h : bE ⟨m,ts⟩=0:=by simpa using h
 rw [if_neg (fun y=>y h)]
 have hw:=iu h
 refine ah d170 (Wrd.bU ⟨m,ts⟩).cds rfl trivial (by simp only [nrm,xdn,reduceIte,Nat.reduceLT,Nat.reduceSub,Nat.reduceAdd,d170,bW _ _ _ _ _ hown,aq]) ?_
 generalize hW : Wrd.bU ⟨m,ts⟩=W at *
 refine af (by simp only [nrm,xdn,reduceIte,Nat.reduceLT,Nat.reduceSub,Nat.reduceAdd,Wrd.cds,Mem.cds,lca];exact az _) (ah d171 ((cJ W x).1.cds ++ [.i (cJ W x).2]) rfl ?_ ?_ ?_)
 ·simp only [nrm,xdn,reduceIte,Nat.reduceLT,Nat.reduceSub,Nat.reduceAdd,Wrd.cds,Mem.cds,lca,d171,eQ,aq]
  exact hw
 ·simp only [nrm,xdn,reduceIte,Nat.reduceLT,Nat.reduceSub,Nat.reduceAdd,Wrd.cds,Mem.cds,lca,d171,eQ,aq,List.drop_succ_cons,List.drop_zero,eW,bF]
 generalize cJ W x=r
 refine ae (fun h1=>ag ?_) (fun h1=>?_)
 ·simp only [nrm,xdn,reduceIte,Nat.reduceLT,Nat.reduceSub,Nat.reduceAdd,Wrd.cds,Mem.cds,lca] at h1 ⊢
  rw [if_pos (by simpa using h1)]
  rfl
 simp only [nrm,xdn,reduceIte,Nat.reduceLT,Nat.reduceSub,Nat.reduceAdd,Wrd.cds,Mem.cds,lca] at h1
 rw [if_neg (by simpa using h1)]
 refine af (by simp only [nrm,xdn,reduceIte,Nat.reduceLT,Nat.reduceSub,Nat.reduceAdd,Wrd.cds,Mem.cds,lca];exact az _) (ag ?_)
 simp only [nrm,xdn,reduceIte,Nat.reduceLT,Nat.reduceSub,Nat.reduceAdd,Wrd.cds,Mem.cds,lca]
def idle : Tsk:=⟨false,Frm.none,[],true⟩
def sd (a b n : Int) : Wrd × Int :=
 if (bZ a b).2≠0 then (Wrd.none,(bZ a b).2)
 else if n < 1∨5 < n then (Wrd.none,3)
 else (⟨(bZ a b).1,List.replicate n.toNat idle⟩,0)
def s78 : Sig:=⟨[.one (.int .i64),.one (.int .i64),.one (.int .i64)],[.agg [.own 52 kS,.own 3 kI,.own 3 kI,.own 3 kI,.int .i64,.own 129 kTo],.one (.int .i64)]⟩
def d78 : DC:=⟨s78,fun _=>True,fun l=>(sd (l.getD 0 .u).int (l.getD 1 .u).int (l.getD 2 .u).int).1.cds ++ [.i (sd (l.getD 0 .u).int (l.getD 1 .u).int (l.getD 2 .u).int).2]⟩
def l78 : List (Nat × Ct):=[(57,d57.ct)]
def z78 : Cx:={ T:=ttA,C:=sigs l78,F:=[],hints:=[],sig:=s78}
def t78 : Tree :=
 (.call 57 [.var 0,.var 1] 3
 (.ite (.not (.eq (.var 8) (.int 0)))
 (.ret [.nil,.nil,.nil,.nil,.int 0,.nil,.var 8])
 (.ite (.lt (.var 2) (.int 1))
 (.ret [.nil,.nil,.nil,.nil,.int 0,.nil,.int 3])
 (.ite (.lt (.int 5) (.var 2))
 (.ret [.nil,.nil,.nil,.nil,.int 0,.nil,.int 3])
 (.need (.le (.int 0) (.var 2))
 (.need (.le (.var 2) (.int 879609302220))
 (.need (.le (.var 2) (.len (.rep (.var 2) (.cons (.bool false) (.cons (.int 0) (.cons (.int 0) (.cons (.int 0) (.cons (.int 0) (.cons (.int 0) (.cons (.int 0) (.cons (.int 0) (.cons (.int 0) (.cons (.int 0) (.cons (.int 0) (.cons (.int 0) (.cons .nil (.cons (.bool false) (.cons (.int 0) (.cons (.own .nil) .row0)))))))))))))))))))
 (.need (.clean (.rep (.var 2) (.cons (.bool false) (.cons (.int 0) (.cons (.int 0) (.cons (.int 0) (.cons (.int 0) (.cons (.int 0) (.cons (.int 0) (.cons (.int 0) (.cons (.int 0) (.cons (.int 0) (.cons (.int 0) (.cons (.int 0) (.cons .nil (.cons (.bool false) (.cons (.int 0) (.cons (.own .nil) .row0))))))))))))))))) 15)
 (.ret [.var 3,.var 4,.var 5,.var 6,.var 7,.take (.var 2) (.rep (.var 2) (.cons (.bool false) (.cons (.int 0) (.cons (.int 0) (.cons (.int 0) (.cons (.int 0) (.cons (.int 0) (.cons (.int 0) (.cons (.int 0) (.cons (.int 0) (.cons (.int 0) (.cons (.int 0) (.cons (.int 0) (.cons .nil (.cons (.bool false) (.cons (.int 0) (.cons (.own .nil) .row0))))))))))))))))),.int 0])))))))))
theorem run78 : run z78 6000 [.code (Try.f78.body.getD .skip),.fin (aP z78 Try.f78.results.toList 50)] { fn:=78,tmps:=z78.sig.aE ++ List.replicate (Try.f78.ntmps - z78.sig.aE.length) (.v (.one .undef)),stk:=[],h:=z78.sig.h0,nx:=z78.sig.ins.length,known:=[]}=t78:=by kernel_rfl
theorem ok78 : bJ Try.prog 78 d78.ct:=by
 refine ax (d:=d78) (Z:=z78) (Γ:=gam l78) (fn:=Try.f78) (c:=Try.f78.body.getD .skip) (aJ tok mixed (all_cons ok57 all_nil) aK) Try.func78 (by kernel_rfl) (by kernel_rfl) rfl run78 fun E hk hp=>?_
 obtain ⟨hk0,hk1,hk2,_⟩:=hk
 obtain ⟨x,e0⟩:=ok_int (d:=E 0) hk0
 obtain ⟨x2,e1⟩:=ok_int (d:=E 1) hk1
 obtain ⟨x3,e2⟩:=ok_int (d:=E 2) hk2
 have el : aG E d78.sig.ins.length=[.i x,.i x2,.i x3]:=by
  show [E 0,E 1,E 2]=_
  rw [e0,e1,e2]
 rw [el] at hp
 rw [el]
 rw [Env.aU el]
 clear el e0 e1 e2
 simp only [d78,List.getD_cons_zero,List.getD_cons_succ,CD.aL]
 unfold sd
 unfold t78
 refine ah d57 ((bZ x x2).1.cds ++ [.i (bZ x x2).2]) rfl trivial (by simp only [nrm,xdn,reduceIte,Nat.reduceLT,Nat.reduceSub,Nat.reduceAdd,d57]) ?_
 generalize bZ x x2=r
 refine ae (fun h=>ag ?_) (fun h=>ae (fun h1=>ag ?_) (fun h1=>ae (fun h2=>ag ?_) (fun h2=>?_)))
 ·simp only [nrm,xdn,reduceIte,Nat.reduceLT,Nat.reduceSub,Nat.reduceAdd,Mem.cds,lca] at h ⊢
  rw [if_pos (by simpa using h)];rfl
 ·simp only [nrm,xdn,reduceIte,Nat.reduceLT,Nat.reduceSub,Nat.reduceAdd,Mem.cds,lca] at h h1 ⊢
  rw [if_neg (by simpa using h),if_pos (.inl h1)];rfl
 ·simp only [nrm,xdn,reduceIte,Nat.reduceLT,Nat.reduceSub,Nat.reduceAdd,Mem.cds,lca] at h h2 ⊢
  rw [if_neg (by simpa using h),if_pos (.inr h2)];rfl
 simp only [nrm,xdn,reduceIte,Nat.reduceLT,Nat.reduceSub,Nat.reduceAdd,Mem.cds,lca] at h h1 h2
 rw [if_neg (by simpa using h),if_neg (fun y=>y.elim h1 h2)]
 obtain ⟨k,rfl⟩ : ∃ k : Nat,x3=k:=⟨x3.toNat,by omega⟩
 have hrow : CD.l (List.replicate k [.b false,.i 0,.i 0,.i 0,.i 0,.i 0,.i 0,.i 0,.i 0,.i 0,.i 0,.i 0,.l [],.b false,.i 0,.o []])=ar (List.replicate k idle):=by
  simp only [ar,List.map_replicate];rfl
 refine af (by simp only [nrm,xdn,reduceIte,Nat.reduceLT,Nat.reduceSub,Nat.reduceAdd];omega) (af (by simp only [nrm,xdn,reduceIte,Nat.reduceLT,Nat.reduceSub,Nat.reduceAdd];omega) (af ?_ (af ?_ (ag ?_))))
 ·simp only [nrm,xdn,reduceIte,Nat.reduceLT,Nat.reduceSub,Nat.reduceAdd,CD.row,List.headD_cons,Int.toNat_natCast,List.length_replicate,Mem.cds,lca];omega
 ·simp only [nrm,xdn,reduceIte,Nat.reduceLT,Nat.reduceSub,Nat.reduceAdd,CD.row,CD.aC,List.headD_cons,Int.toNat_natCast,Mem.cds,lca]
  exact cls hrow
 ·simp only [nrm,xdn,reduceIte,Nat.reduceLT,Nat.reduceSub,Nat.reduceAdd,CD.row,CD.aC,List.headD_cons,Int.toNat_natCast,Mem.cds,lca,Wrd.cds]
  rw [List.take_of_length_le (by simp),hrow]
def rf (w : Wrd) : List iq × Int:=if bE w≠0 then ([],bE w) else iV w.m
def s134 : Sig:=⟨[.agg [.fz kS,.fz kI,.fz kI,.fz kI,.int .i64,.fz kT]],[.one (.own 78 kW),.one (.int .i64)]⟩
def d134 : DC:=⟨s134,fun _=>True,fun l=>[fK (rf (Wrd.of l)).1,.i (rf (Wrd.of l)).2]⟩
def l134 : List (Nat × Ct):=[(157,d157.ct),(71,d71.ct)]
def z134 : Cx:={ T:=ttA,C:=sigs l134,F:=[],hints:=[],sig:=s134}
def t134 : Tree :=
 (.call 157 [.var 0,.var 1,.var 2,.var 3,.var 4,.var 5] 6
 (.ite (.not (.eq (.var 6) (.int 0)))
 (.ret [.nil,.var 6])
 (.call 71 [.var 0,.var 1,.var 2,.var 3,.var 4] 7
 (.ret [.var 7,.var 8]))))
theorem run134 : run z134 6000 [.code (Try.f134.body.getD .skip),.fin (aP z134 Try.f134.results.toList 50)] { fn:=134,tmps:=z134.sig.aE ++ List.replicate (Try.f134.ntmps - z134.sig.aE.length) (.v (.one .undef)),stk:=[],h:=z134.sig.h0,nx:=z134.sig.ins.length,known:=[]}=t134:=by kernel_rfl
theorem ok134 : bJ Try.prog 134 d134.ct:=by
 refine ax (d:=d134) (Z:=z134) (Γ:=gam l134) (fn:=Try.f134) (c:=Try.f134.body.getD .skip) (aJ tok mixed (all_cons ok157 (all_cons ok71 all_nil)) aK) Try.func134 (by kernel_rfl) (by kernel_rfl) rfl run134 fun E hk hp=>?_
 obtain ⟨hk0,hk1,hk2,hk3,hk4,hk5,_⟩:=hk
 obtain ⟨m,e0,e1,e2,e3,e4,b0,b1,b2,b3⟩:=bp (d0:=E 0) (d1:=E 1) (d2:=E 2) (d3:=E 3) (d4:=E 4) hk0 hk1 hk2 hk3 hk4
 obtain ⟨ts,e5,hts,b5⟩:=dB (d:=E 5) hk5
 have b5 : ts.length * 160≤140737488355328:=b5
 have el : aG E d134.sig.ins.length=[ai m.slots,aa m.heads,aa m.free,aa m.locks,.i m.now,aA ts]:=by
  show [E 0,E 1,E 2,E 3,E 4,E 5]=_
  rw [e0,e1,e2,e3,e4,e5]
 rw [el] at hp
 rw [el]
 rw [Env.aU el]
 clear el e0 e1 e2 e3 e4 e5
 have hown : ∀ t∈ts,t.own=false:=fun t ht=>(hts t ht).1
 simp only [d134,bW _ _ _ _ _ hown,aq]
 unfold rf
 unfold t134
 refine ah d157 [.i (bE ⟨m,ts⟩)] rfl trivial (by simp only [nrm,xdn,reduceIte,Nat.reduceLT,Nat.reduceSub,Nat.reduceAdd,d157,bW _ _ _ _ _ hown,aq]) (ae (fun h=>ag ?_) (fun h=>?_))
 ·simp only [nrm,xdn,reduceIte,Nat.reduceLT,Nat.reduceSub,Nat.reduceAdd] at h ⊢
  rw [if_pos (by simpa using h)];rfl
 simp only [nrm,xdn,reduceIte,Nat.reduceLT,Nat.reduceSub,Nat.reduceAdd] at h
 rw [if_neg (by simpa using h)]
 refine ah d71 [fK (iV m).1,.i (iV m).2] rfl trivial (by simp only [nrm,xdn,reduceIte,Nat.reduceLT,Nat.reduceSub,Nat.reduceAdd,d71,mem_of,aq]) (ag ?_)
 simp only [nrm,xdn,reduceIte,Nat.reduceLT,Nat.reduceSub,Nat.reduceAdd]
end Go.Proofs.Ytpmamacjepcdmaa

namespace Go.Proofs.Ytpmamacjepcdmaa
open Go Go.Sy Go.RowKit
theorem getD_modify {α : Type} [Inhabited α] (f : α→α) : ∀ (l : List α) (a i : Nat),(l.modify a f).getD i default=if a=i∧a < l.length then f (l.getD i default) else l.getD i default
 | [],a,i=>by simp
 | x :: l,0,0=>by simp
 | x :: l,0,i + 1=>by simp
 | x :: l,a + 1,0=>by simp
 | x :: l,a + 1,i + 1=>by
  have:=getD_modify f l a i
  simp only [List.modify_succ_cons,List.getD_cons_succ,this,List.length_cons,Nat.add_lt_add_iff_right,Nat.add_right_cancel_iff]
theorem sV {α : Type} [Inhabited α] {P : α→Prop} {l : List α} (h : ∀ i,i < l.length→P (l.getD i default)) : ∀ s∈l,P s:=fun s hs=>by
 obtain ⟨i,hi,rfl⟩:=List.getElem_of_mem hs
 have:=h i hi
 rwa [List.getD_eq_getElem?_getD,List.getElem?_eq_getElem hi,Option.getD_some] at this
theorem xO {α : Type} [Inhabited α] {l m : List α} (hl : l.length=m.length) (h : ∀ i,i < l.length→l.getD i default=m.getD i default) : l=m:=by
 apply List.ext_getElem hl
 intro i h1 h2
 have:=h i h1
 rwa [List.getD_eq_getElem?_getD,List.getD_eq_getElem?_getD,List.getElem?_eq_getElem h1,List.getElem?_eq_getElem h2,Option.getD_some,Option.getD_some] at this
theorem modify_id {α : Type} [Inhabited α] (f : α→α) (l : List α) (a : Nat) (h : f (l.getD a default)=l.getD a default) : l.modify a f=l:=by
 refine xO (by simp) fun i _=>?_
 rw [getD_modify]
 split
 ·rename_i hx;rw [← hx.1,h]
 ·rfl
def ez (m : Mem) (a : Nat) (f : bq→bq) (free : List Int) : Mem:={ m with slots:=m.slots.modify a f,free:=free}
theorem lf (m : Mem) (a : Nat) (f : bq→bq) (free : List Int) (i : Nat) : msl (ez m a f free) i=if a=i∧a < m.slots.length then f (msl m i) else msl m i:=getD_modify f m.slots a i
theorem pM (m : Mem) (a : Nat) (f : bq→bq) (free : List Int) : (ez m a f free).slots.length=m.slots.length:=by simp [ez]
theorem cr.ez {m : Mem} (h : cr m) {a : Nat} {f : bq→bq} {free : List Int} (ha : a < m.slots.length) (hs : jR m.slots.length m.heads.length (f (msl m a)))
  (hf : ∀ b∈free,0≤b∧b < m.slots.length∧(if a=b.toNat then (f (msl m a)).refs=0 else (msl m b.toNat).refs=0)) (hn : free.Nodup)
  (hl : ∀ i,i < m.slots.length→(if a=i then (f (msl m a)).refs=0 else (msl m i).refs=0)→(i : Int)∈free) : cr (ez m a f free):=by
 have e:=pM m a f free
 refine ⟨by rw [e];exact h.ns,h.nh1,h.nh4,h.nl,h.oN,h.oM,?_,by rw [e];exact h.head,fun b hb=>?_,hn,fun i hi hr=>?_⟩
 ·rw [e]
  refine sV fun i hi=>?_
  have : i < m.slots.length:=by rw [e] at hi;exact hi
  show jR _ _ (msl (Ytpmamacjepcdmaa.ez m a f free) i)
  rw [lf]
  split
  ·rename_i hx;rw [← hx.1];exact hs
  ·exact h.sl this
 ·obtain ⟨h1,h2,h3⟩:=hf b hb
  refine ⟨h1,by rw [e];exact h2,?_⟩
  rw [lf]
  by_cases hx : a=b.toNat
  ·rw [if_pos hx] at h3
   rw [if_pos ⟨hx,ha⟩,← hx];exact h3
  ·rw [if_neg hx] at h3
   rw [if_neg (fun y=>hx y.1)];exact h3
 ·rw [e] at hi
  rw [lf] at hr
  refine hl i hi ?_
  by_cases hx : a=i
  ·rw [if_pos hx]
   rw [if_pos ⟨hx,ha⟩,← hx] at hr;exact hr
  ·rw [if_neg hx]
   rw [if_neg (fun y=>hx y.1)] at hr;exact hr
theorem ud {m : Mem} (h : m.free.length≠0) : m.free=m.free.take (m.free.length - 1) ++ [bG m]:=by
 have h1 : m.free.length - 1 < m.free.length:=by omega
 have e : m.free.take (m.free.length - 1 + 1)=m.free:=by rw [List.take_of_length_le (by omega)]
 rw [List.take_succ_eq_append_getElem h1] at e
 unfold bG
 rw [List.getD_eq_getElem?_getD,List.getElem?_eq_getElem h1,Option.getD_some,e]
theorem yx {m : Mem} (h : cr m) {k : Key} {till : Int} (hn : m.free.length≠0) (hk : Key.Ok k) (h0 : 0≤till) (h1 : till≤2000000) : cr (ez m (bG m).toNat (gj k till) (m.free.take (m.free.length - 1))):=by
 have hl:=h.free _ (qX hn)
 have hlt : (bG m).toNat < m.slots.length:=by omega
 have hs:=h.sl hlt
 have hsp:=ud hn
 have hnd:=h.nodup
 rw [hsp] at hnd
 have hnd:=List.nodup_append.1 hnd
 have hnot : ∀ b∈m.free.take (m.free.length - 1),b≠bG m:=fun b hb=>hnd.2.2 b hb (bG m) (by simp)
 refine h.ez hlt ⟨?_,?_,h0,h1,hk,hs.n0,hs.n1⟩ (fun b hb=>?_) hnd.1 (fun i hi hr=>?_)
 ·simp [gj]
 ·simp [gj]
 ·have:=h.free b (by rw [hsp];simp [hb])
  refine ⟨this.1,this.2.1,?_⟩
  rw [if_neg]
  ·exact this.2.2
  ·intro e
   exact hnot b hb (by omega)
 ·split at hr
  ·simp [gj] at hr
  ·rename_i hne
   have:=h.leak i hi hr
   rw [hsp,List.mem_append,List.mem_singleton] at this
   rcases this with h2 | h2
   ·exact h2
   ·exact absurd (by omega) hne
theorem uG {m : Mem} (hm : cr m) {a : Nat} {n : Int} (h1 : a < m.slots.length) (h0 : 1≤(msl m a).refs) (h2 : 1≤(msl m a).refs + n) (h3 : (msl m a).refs + n≤1000) : cr (ez m a (eg n) m.free):=by
 have hs:=hm.sl h1
 refine hm.ez h1 ⟨by show 0≤(msl m a).refs + n;omega,h3,hs.t0,hs.t1,hs.k,hs.n0,hs.n1⟩ (fun b hb=>?_) hm.nodup (fun i hi hr=>?_)
 ·have:=hm.free b hb
  refine ⟨this.1,this.2.1,?_⟩
  rw [if_neg (fun e=>by rw [e] at h0;omega)]
  exact this.2.2
 ·split at hr
  ·have hr : (msl m a).refs + n=0:=hr
   omega
  ·exact hm.leak i hi hr
theorem xK {m : Mem} (hm : cr m) {a : Int} (h0 : 0≤a) (h1 : a < m.slots.length) (h2 : (msl m a.toNat).refs=1) : cr (ez m a.toNat (eg (-1)) (m.free ++ [a])):=by
 have hlt : a.toNat < m.slots.length:=by omega
 have hs:=hm.sl hlt
 have hna : a ∉ m.free:=fun h=>by have:=(hm.free a h).2.2;omega
 refine hm.ez hlt ⟨by show 0≤(msl m a.toNat).refs + -1;omega,by show (msl m a.toNat).refs + -1≤1000;omega,hs.t0,hs.t1,hs.k,hs.n0,hs.n1⟩ (fun b hb=>?_) ?_ (fun i hi hr=>?_)
 ·rcases List.mem_append.1 hb with hb | hb
  ·have:=hm.free b hb
   refine ⟨this.1,this.2.1,?_⟩
   rw [if_neg (fun e=>by
    have : a=b:=by omega
    exact hna (by rw [this];exact hb))]
   exact this.2.2
  ·rw [List.mem_singleton] at hb
   subst hb
   refine ⟨h0,h1,?_⟩
   rw [if_pos rfl]
   show (msl m b.toNat).refs + -1=0
   omega
 ·exact List.nodup_append.2 ⟨hm.nodup,by simp,fun x hx y hy=>by
   rw [List.mem_singleton] at hy
   subst hy
   intro e
   exact hna (by rw [← e];exact hx)⟩
 ·split at hr
  ·rename_i e
   rw [List.mem_append,List.mem_singleton]
   right;omega
  ·rw [List.mem_append]
   exact .inl (hm.leak i hi hr)
end Go.Proofs.Ytpmamacjepcdmaa
