import Derived.Test.YtpmamacjepcdmaaCRan
import Derived.Test.YtpmamacjepcdmaaCSame
namespace Go.Proofs.Ytpmamacjepcdmaa
open Go Go.Sy Go.RowKit
set_option linter.unusedSimpArgs false
set_option linter.unusedVariables false
def s33 : Sig:=⟨[.agg [.fz kS,.fz kI,.fz kI,.fz kI,.int .i64,.fz kT],.one (.fz kQ)],[.one (.bool)]⟩
def d33 : DC:=⟨s33,fun _=>True,fun _=>[.b true]⟩
def l33 : List (Nat × Ct):=[(80,d80.ct),(134,d134.ct),(141,d141.ct),(72,d72.ct),(79,d79.ct),(142,d142.ct),(143,d143.ct),(144,d144.ct),(145,d145.ct),(76,d76.ct),(75,d75.ct)]
def z33 : Cx:={ T:=ttA,C:=sigs l33,F:=[],hints:=[],sig:=s33}
def t33 : Tree :=
 (.call 80 [.var 0,.var 1,.var 2,.var 3,.var 4,.var 5,.var 6] 7
 (.call 134 [.var 0,.var 1,.var 2,.var 3,.var 4,.var 5] 16
 (.call 141 [.var 0,.var 1,.var 2,.var 3,.var 4,.var 5] 18
 (.ite (.eq (.var 18) (.int 0))
 (.call 72 [.var 0,.var 1,.var 2,.var 3,.var 4] 19
 (.call 79 [] 20
 (.ite (.not (.var 20))
 (.ret [.bool false])
 (.ite (.not (.eq (.var 17) (.var 19)))
 (.ret [.bool false])
 (.ite (.not (.eq (.var 19) (.int 0)))
 (.ite (.not (.eq (.len (.var 16)) (.int 0)))
 (.ret [.bool false])
 (.ite (.lt (.int 300) (.len (.var 6)))
 (.ite (.eq (.var 15) (.int 2))
 (.need (.fit (.add (.len (.var 13)) (.len (.var 14))))
 (.ite (.eq (.add (.len (.var 13)) (.len (.var 14))) (.int 0))
 (.call 142 [.var 7,.var 8,.var 9,.var 10,.var 11,.var 12,.nil,.nil,.nil,.nil,.int 0,.nil] 21
 (.ret [.var 21]))
 (.ret [.bool false])))
 (.ret [.bool false]))
 (.call 143 [.var 0,.var 1,.var 2,.var 3,.var 4,.var 5,.var 6] 21
 (.ite (.eq (.var 15) (.int 0))
 (.call 142 [.var 7,.var 8,.var 9,.var 10,.var 11,.var 12,.var 21,.var 22,.var 23,.var 24,.var 25,.var 26] 29
 (.ite (.var 29)
 (.call 144 [.var 13,.var 27] 30
 (.ite (.var 30)
 (.call 145 [.var 14,.var 28] 31
 (.ret [.var 31]))
 (.ret [.bool false])))
 (.ret [.bool false])))
 (.ret [.bool false])))))
 (.call 76 [.var 0,.var 1,.var 2,.var 3,.var 4] 21
 (.call 75 [.var 16,.var 21] 22
 (.ite (.not (.var 22))
 (.ret [.bool false])
 (.ite (.lt (.int 300) (.len (.var 6)))
 (.ite (.eq (.var 15) (.int 2))
 (.need (.fit (.add (.len (.var 13)) (.len (.var 14))))
 (.ite (.eq (.add (.len (.var 13)) (.len (.var 14))) (.int 0))
 (.call 142 [.var 7,.var 8,.var 9,.var 10,.var 11,.var 12,.nil,.nil,.nil,.nil,.int 0,.nil] 23
 (.ret [.var 23]))
 (.ret [.bool false])))
 (.ret [.bool false]))
 (.call 143 [.var 0,.var 1,.var 2,.var 3,.var 4,.var 5,.var 6] 23
 (.ite (.eq (.var 15) (.int 0))
 (.call 142 [.var 7,.var 8,.var 9,.var 10,.var 11,.var 12,.var 23,.var 24,.var 25,.var 26,.var 27,.var 28] 31
 (.ite (.var 31)
 (.call 144 [.var 13,.var 29] 32
 (.ite (.var 32)
 (.call 145 [.var 14,.var 30] 33
 (.ret [.var 33]))
 (.ret [.bool false])))
 (.ret [.bool false])))
 (.ret [.bool false]))))))))))))
 (.call 79 [] 19
 (.ite (.not (.var 19))
 (.ret [.bool false])
 (.ite (.not (.eq (.var 17) (.var 18)))
 (.ret [.bool false])
 (.ite (.not (.eq (.len (.var 16)) (.int 0)))
 (.ret [.bool false])
 (.ite (.eq (.var 15) (.var 18))
 (.need (.fit (.add (.len (.var 13)) (.len (.var 14))))
 (.ite (.eq (.add (.len (.var 13)) (.len (.var 14))) (.int 0))
 (.call 142 [.var 7,.var 8,.var 9,.var 10,.var 11,.var 12,.nil,.nil,.nil,.nil,.int 0,.nil] 20
 (.ret [.var 20]))
 (.ret [.bool false])))
 (.ret [.bool false]))))))))))
theorem run33 : run z33 6000 [.code (Try.f33.body.getD .skip),.fin (bt z33 Try.f33.results.toList 50)] { fn:=33,tmps:=z33.sig.aM ++ List.replicate (Try.f33.ntmps - z33.sig.aM.length) (.v (.one .undef)),stk:=[],h:=z33.sig.h0,nx:=z33.sig.ins.length,known:=[]}=t33:=by kernel_rfl
theorem ok33 : cB Try.prog 33 d33.ct:=by
 refine aD (d:=d33) (Z:=z33) (Γ:=gam l33) (fn:=Try.f33) (c:=Try.f33.body.getD .skip) (bg tok mixed (all_cons ok80 (all_cons ok134 (all_cons ok141 (all_cons ok72 (all_cons ok79 (all_cons ok142 (all_cons ok143 (all_cons ok144 (all_cons ok145 (all_cons ok76 (all_cons ok75 all_nil))))))))))) bh) Try.func33 (by kernel_rfl) (by kernel_rfl) rfl run33 fun E hk hp=>?_
 obtain ⟨hk0,hk1,hk2,hk3,hk4,hk5,hk6,_⟩:=hk
 obtain ⟨m,e0,e1,e2,e3,e4,b0,b1,b2,b3⟩:=cv (d0:=E 0) (d1:=E 1) (d2:=E 2) (d3:=E 3) (d4:=E 4) hk0 hk1 hk2 hk3 hk4
 obtain ⟨ts,e5,hts,b5⟩:=hU (d:=E 5) hk5
 have b5 : ts.length * 160≤140737488355328:=b5
 obtain ⟨l,e6,b6⟩:=Dc (d:=E 6) hk6
 have b6 : l.length * 64≤140737488355328:=b6
 have el : aH E d33.sig.ins.length=[au m.slots,af m.heads,af m.free,af m.locks,.i m.now,G2 ts,eD l]:=by
  show [E 0,E 1,E 2,E 3,E 4,E 5,E 6]=_
  rw [e0,e1,e2,e3,e4,e5,e6]
 rw [el] at hp
 rw [el]
 rw [Env.bJ el]
 clear el e0 e1 e2 e3 e4 e5 e6
 have hown : ∀ t∈ts,t.own=false:=fun t ht=>(hts t ht).1
 obtain ⟨V,hv⟩ : ∃ V,BK ⟨m,ts⟩ l=V:=⟨_,rfl⟩
 obtain ⟨F,hf⟩ : ∃ F,qw ⟨m,ts⟩=F:=⟨_,rfl⟩
 obtain ⟨e,he⟩ : ∃ e,bL ⟨m,ts⟩=e:=⟨_,rfl⟩
 obtain ⟨c,hc⟩ : ∃ c,bU m=c:=⟨_,rfl⟩
 have f0 : e≠0→V=(⟨Wrd.none,[],[],[]⟩,e):=fun h=>by rw [← hv];unfold BK;rw [he,if_pos h]
 have g1 : e=0→300 < l.length→V=(⟨Wrd.none,[],[],[]⟩,2):=fun h h2=>by rw [← hv];unfold BK;rw [he,if_neg (fun y=>y h),if_pos h2]
 have g2 : e=0→¬ 300 < l.length→V.2=0:=fun h h2=>by rw [← hv];unfold BK;rw [he,if_neg (fun y=>y h),if_neg h2]
 have k0 : e≠0→F=([],e):=fun h=>by rw [← hf];unfold qw;rw [he,if_pos h]
 have k1 : e=0→c≠0→F=([],c):=fun h h2=>by rw [← hf];unfold qw jM;rw [he,if_neg (fun y=>y h),hc,if_pos h2]
 have k2 : e=0→c=0→F=(aq m,0):=fun h h2=>by rw [← hf];unfold qw jM;rw [he,if_neg (fun y=>y h),hc,if_neg (fun y=>y h2)]
 unfold t33
 refine ai d80 [au V.1.w.m.slots,af V.1.w.m.heads,af V.1.w.m.free,af V.1.w.m.locks,.i V.1.w.m.now,G2 V.1.w.ts,af V.1.said,gl V.1.past,.i V.2] rfl trivial (by simp only [nrm,xdn,reduceIte,Nat.reduceLT,Nat.reduceSub,Nat.reduceAdd,d80,kr _ _ _ _ _ hown,aA,oZ,hv];rfl) ?_
 refine ai d134 [eM F.1,.i F.2] rfl trivial (by simp only [nrm,xdn,reduceIte,Nat.reduceLT,Nat.reduceSub,Nat.reduceAdd,d134,kr _ _ _ _ _ hown,aA,hf]) ?_
 refine ai d141 [.i e] rfl trivial (by simp only [nrm,xdn,reduceIte,Nat.reduceLT,Nat.reduceSub,Nat.reduceAdd,d141,kr _ _ _ _ _ hown,aA,he]) (G0 (fun h0=>?_) (fun h0=>?_))
 ·simp only [nrm,xdn,reduceIte,Nat.reduceLT,Nat.reduceSub,Nat.reduceAdd] at h0
  have h0 : e=0:=by simpa using h0
  refine ai d72 [.i c] rfl trivial (by simp only [nrm,xdn,reduceIte,Nat.reduceLT,Nat.reduceSub,Nat.reduceAdd,fn72,hc]) (ai d79 [.b true] rfl trivial rfl (G0 (fun hn=>?_) (fun _=>?_)))
  ·skip
   simp only [nrm,xdn,reduceIte,Nat.reduceLT,Nat.reduceSub,Nat.reduceAdd] at hn
   simp at hn
  by_cases hc0 : c=0
  ·have hF:=k2 h0 hc0
   subst hF
   refine G0 (fun hn=>?_) (fun _=>G0 (fun hn=>?_) (fun _=>?_))
   ·simp only [nrm,xdn,reduceIte,Nat.reduceLT,Nat.reduceSub,Nat.reduceAdd,hc0] at hn
    simp at hn
   ·simp only [nrm,xdn,reduceIte,Nat.reduceLT,Nat.reduceSub,Nat.reduceAdd,hc0] at hn
    simp at hn
   refine ai d76 [eM (aq m)] rfl (by simp only [nrm,xdn,reduceIte,Nat.reduceLT,Nat.reduceSub,Nat.reduceAdd,d76,mem_of,aA];exact hc.trans hc0) (by simp only [nrm,xdn,reduceIte,Nat.reduceLT,Nat.reduceSub,Nat.reduceAdd,fn76]) (ai d75 [.b true] rfl trivial (by simp only [nrm,xdn,reduceIte,Nat.reduceLT,Nat.reduceSub,Nat.reduceAdd,d75,G6,decide_true]) (G0 (fun hn=>?_) (fun _=>?_)))
   ·skip
    simp only [nrm,xdn,reduceIte,Nat.reduceLT,Nat.reduceSub,Nat.reduceAdd] at hn
    simp at hn
   refine G0 (fun h3=>?_) (fun h3=>?_)
   ·simp only [nrm,xdn,reduceIte,Nat.reduceLT,Nat.reduceSub,Nat.reduceAdd,nc] at h3
    have hV:=g1 h0 (by omega)
    subst hV
    refine G0 (fun _=>?_) (fun hn=>?_)
    ·skip
     refine G1 (by simp only [nrm,xdn,reduceIte,Nat.reduceLT,Nat.reduceSub,Nat.reduceAdd,aw,qm];decide) (G0 (fun _=>ai d142 [.b true] rfl trivial (by simp only [nrm,xdn,reduceIte,Nat.reduceLT,Nat.reduceSub,Nat.reduceAdd];exact Hi (a:=Wrd.none) (b:=Wrd.none) rfl rfl) (aj (by simp only [nrm,xdn,reduceIte,Nat.reduceLT,Nat.reduceSub,Nat.reduceAdd];rfl))) (fun hn=>?_))
     simp only [nrm,xdn,reduceIte,Nat.reduceLT,Nat.reduceSub,Nat.reduceAdd,aw,qm] at hn
     simp at hn
    ·skip
     simp only [nrm,xdn,reduceIte,Nat.reduceLT,Nat.reduceSub,Nat.reduceAdd] at hn
     simp at hn
   simp only [nrm,xdn,reduceIte,Nat.reduceLT,Nat.reduceSub,Nat.reduceAdd,nc] at h3
   have hV:=g2 h0 (by omega)
   refine ai d143 [au V.1.w.m.slots,af V.1.w.m.heads,af V.1.w.m.free,af V.1.w.m.locks,.i V.1.w.m.now,G2 V.1.w.ts,af V.1.said,gl V.1.past] rfl ?_ ?_ (G0 (fun _=>?_) (fun hn=>?_))
   ·simp only [nrm,xdn,reduceIte,Nat.reduceLT,Nat.reduceSub,Nat.reduceAdd,d143,kr _ _ _ _ _ hown,aA,oZ]
    exact ⟨he.trans h0,by omega⟩
   ·simp only [nrm,xdn,reduceIte,Nat.reduceLT,Nat.reduceSub,Nat.reduceAdd,d143,kr _ _ _ _ _ hown,aA,oZ]
    rw [hv];rfl
   ·refine ai d142 [.b true] rfl trivial (by simp only [nrm,xdn,reduceIte,Nat.reduceLT,Nat.reduceSub,Nat.reduceAdd];exact Hi (a:=V.1.w) (b:=V.1.w) rfl rfl) (G0 (fun _=>?_) (fun hn=>?_))
    ·refine ai d144 [.b true] rfl trivial (by simp only [nrm,xdn,reduceIte,Nat.reduceLT,Nat.reduceSub,Nat.reduceAdd,d144,bY,decide_true]) (G0 (fun _=>?_) (fun hn=>?_))
     ·refine ai d145 [.b true] rfl trivial (by simp only [nrm,xdn,reduceIte,Nat.reduceLT,Nat.reduceSub,Nat.reduceAdd,d145,IE,decide_true]) (aj (by simp only [nrm,xdn,reduceIte,Nat.reduceLT,Nat.reduceSub,Nat.reduceAdd];rfl))
     ·skip
      simp only [nrm,xdn,reduceIte,Nat.reduceLT,Nat.reduceSub,Nat.reduceAdd] at hn
      simp at hn
    ·skip
     simp only [nrm,xdn,reduceIte,Nat.reduceLT,Nat.reduceSub,Nat.reduceAdd] at hn
     simp at hn
   ·simp only [nrm,xdn,reduceIte,Nat.reduceLT,Nat.reduceSub,Nat.reduceAdd,hV] at hn
    simp at hn
  ·have hF:=k1 h0 hc0
   subst hF
   refine G0 (fun hn=>?_) (fun _=>G0 (fun _=>G0 (fun hn=>?_) (fun _=>?_)) (fun hn=>?_))
   ·skip
    simp only [nrm,xdn,reduceIte,Nat.reduceLT,Nat.reduceSub,Nat.reduceAdd] at hn
    simp at hn
   ·simp only [nrm,xdn,reduceIte,Nat.reduceLT,Nat.reduceSub,Nat.reduceAdd,iT] at hn
    simp at hn
   ·skip
    refine G0 (fun h3=>?_) (fun h3=>?_)
    ·simp only [nrm,xdn,reduceIte,Nat.reduceLT,Nat.reduceSub,Nat.reduceAdd,nc] at h3
     have hV:=g1 h0 (by omega)
     subst hV
     refine G0 (fun _=>?_) (fun hn=>?_)
     ·skip
      refine G1 (by simp only [nrm,xdn,reduceIte,Nat.reduceLT,Nat.reduceSub,Nat.reduceAdd,aw,qm];decide) (G0 (fun _=>ai d142 [.b true] rfl trivial (by simp only [nrm,xdn,reduceIte,Nat.reduceLT,Nat.reduceSub,Nat.reduceAdd];exact Hi (a:=Wrd.none) (b:=Wrd.none) rfl rfl) (aj (by simp only [nrm,xdn,reduceIte,Nat.reduceLT,Nat.reduceSub,Nat.reduceAdd];rfl))) (fun hn=>?_))
      simp only [nrm,xdn,reduceIte,Nat.reduceLT,Nat.reduceSub,Nat.reduceAdd,aw,qm] at hn
      simp at hn
     ·skip
      simp only [nrm,xdn,reduceIte,Nat.reduceLT,Nat.reduceSub,Nat.reduceAdd] at hn
      simp at hn
    simp only [nrm,xdn,reduceIte,Nat.reduceLT,Nat.reduceSub,Nat.reduceAdd,nc] at h3
    have hV:=g2 h0 (by omega)
    refine ai d143 [au V.1.w.m.slots,af V.1.w.m.heads,af V.1.w.m.free,af V.1.w.m.locks,.i V.1.w.m.now,G2 V.1.w.ts,af V.1.said,gl V.1.past] rfl ?_ ?_ (G0 (fun _=>?_) (fun hn=>?_))
    ·simp only [nrm,xdn,reduceIte,Nat.reduceLT,Nat.reduceSub,Nat.reduceAdd,d143,kr _ _ _ _ _ hown,aA,oZ]
     exact ⟨he.trans h0,by omega⟩
    ·simp only [nrm,xdn,reduceIte,Nat.reduceLT,Nat.reduceSub,Nat.reduceAdd,d143,kr _ _ _ _ _ hown,aA,oZ]
     rw [hv];rfl
    ·refine ai d142 [.b true] rfl trivial (by simp only [nrm,xdn,reduceIte,Nat.reduceLT,Nat.reduceSub,Nat.reduceAdd];exact Hi (a:=V.1.w) (b:=V.1.w) rfl rfl) (G0 (fun _=>?_) (fun hn=>?_))
     ·refine ai d144 [.b true] rfl trivial (by simp only [nrm,xdn,reduceIte,Nat.reduceLT,Nat.reduceSub,Nat.reduceAdd,d144,bY,decide_true]) (G0 (fun _=>?_) (fun hn=>?_))
      ·refine ai d145 [.b true] rfl trivial (by simp only [nrm,xdn,reduceIte,Nat.reduceLT,Nat.reduceSub,Nat.reduceAdd,d145,IE,decide_true]) (aj (by simp only [nrm,xdn,reduceIte,Nat.reduceLT,Nat.reduceSub,Nat.reduceAdd];rfl))
      ·skip
       simp only [nrm,xdn,reduceIte,Nat.reduceLT,Nat.reduceSub,Nat.reduceAdd] at hn
       simp at hn
     ·skip
      simp only [nrm,xdn,reduceIte,Nat.reduceLT,Nat.reduceSub,Nat.reduceAdd] at hn
      simp at hn
    ·simp only [nrm,xdn,reduceIte,Nat.reduceLT,Nat.reduceSub,Nat.reduceAdd,hV] at hn
     simp at hn
   ·simp only [nrm,xdn,reduceIte,Nat.reduceLT,Nat.reduceSub,Nat.reduceAdd] at hn
    exact absurd (by simpa using hn) hc0
 ·simp only [nrm,xdn,reduceIte,Nat.reduceLT,Nat.reduceSub,Nat.reduceAdd] at h0
  have h0 : e≠0:=by simpa using h0
  have hV:=f0 h0
  have hF:=k0 h0
  subst hV hF
  refine ai d79 [.b true] rfl trivial rfl (G0 (fun hn=>?_) (fun _=>G0 (fun hn=>?_) (fun _=>G0 (fun hn=>?_) (fun _=>G0 (fun _=>?_) (fun hn=>?_)))))
  ·skip
   simp only [nrm,xdn,reduceIte,Nat.reduceLT,Nat.reduceSub,Nat.reduceAdd] at hn
   simp at hn
  ·skip
   simp only [nrm,xdn,reduceIte,Nat.reduceLT,Nat.reduceSub,Nat.reduceAdd] at hn
   simp at hn
  ·simp only [nrm,xdn,reduceIte,Nat.reduceLT,Nat.reduceSub,Nat.reduceAdd,iT] at hn
   simp at hn
  ·skip
   refine G1 (by simp only [nrm,xdn,reduceIte,Nat.reduceLT,Nat.reduceSub,Nat.reduceAdd,aw,qm];decide) (G0 (fun _=>ai d142 [.b true] rfl trivial (by simp only [nrm,xdn,reduceIte,Nat.reduceLT,Nat.reduceSub,Nat.reduceAdd];exact Hi (a:=Wrd.none) (b:=Wrd.none) rfl rfl) (aj (by simp only [nrm,xdn,reduceIte,Nat.reduceLT,Nat.reduceSub,Nat.reduceAdd];rfl))) (fun hn=>?_))
   simp only [nrm,xdn,reduceIte,Nat.reduceLT,Nat.reduceSub,Nat.reduceAdd,aw,qm] at hn
   simp at hn
  ·skip
   simp only [nrm,xdn,reduceIte,Nat.reduceLT,Nat.reduceSub,Nat.reduceAdd] at hn
   simp at hn
end Go.Proofs.Ytpmamacjepcdmaa
