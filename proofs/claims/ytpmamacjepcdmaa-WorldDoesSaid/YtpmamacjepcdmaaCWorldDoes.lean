import Derived.Test.YtpmamacjepcdmaaCPlayed
import Derived.Test.YtpmamacjepcdmaaCSame
namespace Go.Proofs.Ytpmamacjepcdmaa
open Go Go.Sy Go.RowKit
set_option linter.unusedSimpArgs false
set_option linter.unusedVariables false
theorem Iw {a b n : Int} (h : a < 0∨12 < a∨b < 1∨4 < b∨n < 1∨5 < n) : iw a b n=(Wrd.none,3):=by
 unfold iw dx
 by_cases hz : a < 0∨12 < a∨b < 1∨4 < b
 ·rw [if_pos hz];rfl
 ·rw [if_neg hz,if_neg (fun y=>y rfl),if_pos (by omega)]
def s37 : Sig:=⟨[.agg [.fz kS,.fz kI,.fz kI,.fz kI,.int .i64,.fz kT],.agg [.int .i64,.bool,.bool,.int .i64,.int .i64,.int .i64,.int .i64,.int .i64,.int .i64],.one (.int .i64),.one (.int .i64),.one (.int .i64)],[.one (.bool)]⟩
def d37 : DC:=⟨s37,fun _=>True,fun _=>[.b true]⟩
def l37 : List (Nat × Ct):=[(156,d156.ct),(140,d140.ct),(78,d78.ct),(141,d141.ct),(79,d79.ct),(157,d157.ct),(142,d142.ct),(158,d158.ct),(61,d61.ct)]
def z37 : Cx:={ T:=ttA,C:=sigs l37,F:=[],hints:=[],sig:=s37}
def t37 : Tree :=
 (.call 156 [.var 0,.var 1,.var 2,.var 3,.var 4,.var 5] 18
 (.need (.clean (.var 23) 15)
 (.call 140 [.var 18,.var 19,.var 20,.var 21,.var 22,.shuts (.var 23) 15,.var 6,.var 7,.var 8,.var 9,.var 10,.var 11,.var 12,.var 13,.var 14] 24
 (.call 78 [.var 15,.var 16,.var 17] 31
 (.call 141 [.var 0,.var 1,.var 2,.var 3,.var 4,.var 5] 38
 (.call 79 [] 39
 (.ite (.not (.var 39))
 (.ret [.bool false])
 (.call 157 [.var 0,.var 1,.var 2,.var 3,.var 4,.var 5] 40
 (.ite (.not (.eq (.var 40) (.var 38)))
 (.ret [.bool false])
 (.call 142 [.var 18,.var 19,.var 20,.var 21,.var 22,.shuts (.var 23) 15,.var 0,.var 1,.var 2,.var 3,.var 4,.var 5] 41
 (.ite (.not (.var 41))
 (.ret [.bool false])
 (.ite (.lt (.var 15) (.int 0))
 (.ite (.not (.eq (.var 37) (.int 3)))
 (.ret [.bool false])
 (.need (.clean (.var 36) 15)
 (.call 142 [.var 31,.var 32,.var 33,.var 34,.var 35,.shuts (.var 36) 15,.nil,.nil,.nil,.nil,.int 0,.nil] 42
 (.ite (.not (.var 42))
 (.ret [.bool false])
 (.ite (.not (.eq (.var 38) (.int 0)))
 (.ite (.eq (.var 30) (.var 38))
 (.need (.clean (.var 29) 15)
 (.call 142 [.var 24,.var 25,.var 26,.var 27,.var 28,.shuts (.var 29) 15,.nil,.nil,.nil,.nil,.int 0,.nil] 43
 (.ret [.var 43])))
 (.ret [.bool false]))
 (.call 158 [.var 0,.var 1,.var 2,.var 3,.var 4,.var 5,.var 6,.var 7,.var 8,.var 9,.var 10,.var 11,.var 12,.var 13,.var 14] 43
 (.ite (.eq (.var 30) (.var 49))
 (.need (.clean (.var 29) 15)
 (.call 142 [.var 24,.var 25,.var 26,.var 27,.var 28,.shuts (.var 29) 15,.var 43,.var 44,.var 45,.var 46,.var 47,.var 48] 50
 (.ret [.var 50])))
 (.ret [.bool false]))))))))
 (.ite (.lt (.int 12) (.var 15))
 (.ite (.not (.eq (.var 37) (.int 3)))
 (.ret [.bool false])
 (.need (.clean (.var 36) 15)
 (.call 142 [.var 31,.var 32,.var 33,.var 34,.var 35,.shuts (.var 36) 15,.nil,.nil,.nil,.nil,.int 0,.nil] 42
 (.ite (.not (.var 42))
 (.ret [.bool false])
 (.ite (.not (.eq (.var 38) (.int 0)))
 (.ite (.eq (.var 30) (.var 38))
 (.need (.clean (.var 29) 15)
 (.call 142 [.var 24,.var 25,.var 26,.var 27,.var 28,.shuts (.var 29) 15,.nil,.nil,.nil,.nil,.int 0,.nil] 43
 (.ret [.var 43])))
 (.ret [.bool false]))
 (.call 158 [.var 0,.var 1,.var 2,.var 3,.var 4,.var 5,.var 6,.var 7,.var 8,.var 9,.var 10,.var 11,.var 12,.var 13,.var 14] 43
 (.ite (.eq (.var 30) (.var 49))
 (.need (.clean (.var 29) 15)
 (.call 142 [.var 24,.var 25,.var 26,.var 27,.var 28,.shuts (.var 29) 15,.var 43,.var 44,.var 45,.var 46,.var 47,.var 48] 50
 (.ret [.var 50])))
 (.ret [.bool false]))))))))
 (.ite (.lt (.var 16) (.int 1))
 (.ite (.not (.eq (.var 37) (.int 3)))
 (.ret [.bool false])
 (.need (.clean (.var 36) 15)
 (.call 142 [.var 31,.var 32,.var 33,.var 34,.var 35,.shuts (.var 36) 15,.nil,.nil,.nil,.nil,.int 0,.nil] 42
 (.ite (.not (.var 42))
 (.ret [.bool false])
 (.ite (.not (.eq (.var 38) (.int 0)))
 (.ite (.eq (.var 30) (.var 38))
 (.need (.clean (.var 29) 15)
 (.call 142 [.var 24,.var 25,.var 26,.var 27,.var 28,.shuts (.var 29) 15,.nil,.nil,.nil,.nil,.int 0,.nil] 43
 (.ret [.var 43])))
 (.ret [.bool false]))
 (.call 158 [.var 0,.var 1,.var 2,.var 3,.var 4,.var 5,.var 6,.var 7,.var 8,.var 9,.var 10,.var 11,.var 12,.var 13,.var 14] 43
 (.ite (.eq (.var 30) (.var 49))
 (.need (.clean (.var 29) 15)
 (.call 142 [.var 24,.var 25,.var 26,.var 27,.var 28,.shuts (.var 29) 15,.var 43,.var 44,.var 45,.var 46,.var 47,.var 48] 50
 (.ret [.var 50])))
 (.ret [.bool false]))))))))
 (.ite (.lt (.int 4) (.var 16))
 (.ite (.not (.eq (.var 37) (.int 3)))
 (.ret [.bool false])
 (.need (.clean (.var 36) 15)
 (.call 142 [.var 31,.var 32,.var 33,.var 34,.var 35,.shuts (.var 36) 15,.nil,.nil,.nil,.nil,.int 0,.nil] 42
 (.ite (.not (.var 42))
 (.ret [.bool false])
 (.ite (.not (.eq (.var 38) (.int 0)))
 (.ite (.eq (.var 30) (.var 38))
 (.need (.clean (.var 29) 15)
 (.call 142 [.var 24,.var 25,.var 26,.var 27,.var 28,.shuts (.var 29) 15,.nil,.nil,.nil,.nil,.int 0,.nil] 43
 (.ret [.var 43])))
 (.ret [.bool false]))
 (.call 158 [.var 0,.var 1,.var 2,.var 3,.var 4,.var 5,.var 6,.var 7,.var 8,.var 9,.var 10,.var 11,.var 12,.var 13,.var 14] 43
 (.ite (.eq (.var 30) (.var 49))
 (.need (.clean (.var 29) 15)
 (.call 142 [.var 24,.var 25,.var 26,.var 27,.var 28,.shuts (.var 29) 15,.var 43,.var 44,.var 45,.var 46,.var 47,.var 48] 50
 (.ret [.var 50])))
 (.ret [.bool false]))))))))
 (.ite (.lt (.var 17) (.int 1))
 (.ite (.not (.eq (.var 37) (.int 3)))
 (.ret [.bool false])
 (.need (.clean (.var 36) 15)
 (.call 142 [.var 31,.var 32,.var 33,.var 34,.var 35,.shuts (.var 36) 15,.nil,.nil,.nil,.nil,.int 0,.nil] 42
 (.ite (.not (.var 42))
 (.ret [.bool false])
 (.ite (.not (.eq (.var 38) (.int 0)))
 (.ite (.eq (.var 30) (.var 38))
 (.need (.clean (.var 29) 15)
 (.call 142 [.var 24,.var 25,.var 26,.var 27,.var 28,.shuts (.var 29) 15,.nil,.nil,.nil,.nil,.int 0,.nil] 43
 (.ret [.var 43])))
 (.ret [.bool false]))
 (.call 158 [.var 0,.var 1,.var 2,.var 3,.var 4,.var 5,.var 6,.var 7,.var 8,.var 9,.var 10,.var 11,.var 12,.var 13,.var 14] 43
 (.ite (.eq (.var 30) (.var 49))
 (.need (.clean (.var 29) 15)
 (.call 142 [.var 24,.var 25,.var 26,.var 27,.var 28,.shuts (.var 29) 15,.var 43,.var 44,.var 45,.var 46,.var 47,.var 48] 50
 (.ret [.var 50])))
 (.ret [.bool false]))))))))
 (.ite (.lt (.int 5) (.var 17))
 (.ite (.not (.eq (.var 37) (.int 3)))
 (.ret [.bool false])
 (.need (.clean (.var 36) 15)
 (.call 142 [.var 31,.var 32,.var 33,.var 34,.var 35,.shuts (.var 36) 15,.nil,.nil,.nil,.nil,.int 0,.nil] 42
 (.ite (.not (.var 42))
 (.ret [.bool false])
 (.ite (.not (.eq (.var 38) (.int 0)))
 (.ite (.eq (.var 30) (.var 38))
 (.need (.clean (.var 29) 15)
 (.call 142 [.var 24,.var 25,.var 26,.var 27,.var 28,.shuts (.var 29) 15,.nil,.nil,.nil,.nil,.int 0,.nil] 43
 (.ret [.var 43])))
 (.ret [.bool false]))
 (.call 158 [.var 0,.var 1,.var 2,.var 3,.var 4,.var 5,.var 6,.var 7,.var 8,.var 9,.var 10,.var 11,.var 12,.var 13,.var 14] 43
 (.ite (.eq (.var 30) (.var 49))
 (.need (.clean (.var 29) 15)
 (.call 142 [.var 24,.var 25,.var 26,.var 27,.var 28,.shuts (.var 29) 15,.var 43,.var 44,.var 45,.var 46,.var 47,.var 48] 50
 (.ret [.var 50])))
 (.ret [.bool false]))))))))
 (.ite (.not (.eq (.var 37) (.int 0)))
 (.ret [.bool false])
 (.both
 (.call 61 [.var 15,.var 16] 42
 (.need (.le (.int 0) (.var 17))
 (.need (.le (.var 17) (.int 879609302220))
 (.need (.clean (.var 36) 15)
 (.need (.clean (.rep (.var 17) (.cons (.bool false) (.cons (.int 0) (.cons (.int 0) (.cons (.int 0) (.cons (.int 0) (.cons (.int 0) (.cons (.int 0) (.cons (.int 0) (.cons (.int 0) (.cons (.int 0) (.cons (.int 0) (.cons (.int 0) (.cons .nil (.cons (.bool false) (.cons (.int 0) (.cons (.own .nil) .row0))))))))))))))))) 15)
 (.call 142 [.var 31,.var 32,.var 33,.var 34,.var 35,.shuts (.var 36) 15,.var 42,.var 43,.var 44,.var 45,.var 46,.shuts (.take (.var 17) (.rep (.var 17) (.cons (.bool false) (.cons (.int 0) (.cons (.int 0) (.cons (.int 0) (.cons (.int 0) (.cons (.int 0) (.cons (.int 0) (.cons (.int 0) (.cons (.int 0) (.cons (.int 0) (.cons (.int 0) (.cons (.int 0) (.cons .nil (.cons (.bool false) (.cons (.int 0) (.cons (.own .nil) .row0)))))))))))))))))) 15] 47
 (.ite (.not (.var 47))
 (.ret [.bool false])
 (.ite (.not (.eq (.var 38) (.int 0)))
 (.ite (.eq (.var 30) (.var 38))
 (.need (.clean (.var 29) 15)
 (.call 142 [.var 24,.var 25,.var 26,.var 27,.var 28,.shuts (.var 29) 15,.nil,.nil,.nil,.nil,.int 0,.nil] 48
 (.ret [.var 48])))
 (.ret [.bool false]))
 (.call 158 [.var 0,.var 1,.var 2,.var 3,.var 4,.var 5,.var 6,.var 7,.var 8,.var 9,.var 10,.var 11,.var 12,.var 13,.var 14] 48
 (.ite (.eq (.var 30) (.var 54))
 (.need (.clean (.var 29) 15)
 (.call 142 [.var 24,.var 25,.var 26,.var 27,.var 28,.shuts (.var 29) 15,.var 48,.var 49,.var 50,.var 51,.var 52,.var 53] 55
 (.ret [.var 55])))
 (.ret [.bool false])))))))))))
 (.need (.le (.int 0) (.var 17))
 (.need (.le (.var 17) (.int 879609302220))
 (.call 61 [.var 15,.var 16] 42
 (.need (.clean (.var 36) 15)
 (.need (.clean (.rep (.var 17) (.cons (.bool false) (.cons (.int 0) (.cons (.int 0) (.cons (.int 0) (.cons (.int 0) (.cons (.int 0) (.cons (.int 0) (.cons (.int 0) (.cons (.int 0) (.cons (.int 0) (.cons (.int 0) (.cons (.int 0) (.cons .nil (.cons (.bool false) (.cons (.int 0) (.cons (.own .nil) .row0))))))))))))))))) 15)
 (.call 142 [.var 31,.var 32,.var 33,.var 34,.var 35,.shuts (.var 36) 15,.var 42,.var 43,.var 44,.var 45,.var 46,.shuts (.take (.var 17) (.rep (.var 17) (.cons (.bool false) (.cons (.int 0) (.cons (.int 0) (.cons (.int 0) (.cons (.int 0) (.cons (.int 0) (.cons (.int 0) (.cons (.int 0) (.cons (.int 0) (.cons (.int 0) (.cons (.int 0) (.cons (.int 0) (.cons .nil (.cons (.bool false) (.cons (.int 0) (.cons (.own .nil) .row0)))))))))))))))))) 15] 47
 (.ite (.not (.var 47))
 (.ret [.bool false])
 (.ite (.not (.eq (.var 38) (.int 0)))
 (.ite (.eq (.var 30) (.var 38))
 (.need (.clean (.var 29) 15)
 (.call 142 [.var 24,.var 25,.var 26,.var 27,.var 28,.shuts (.var 29) 15,.nil,.nil,.nil,.nil,.int 0,.nil] 48
 (.ret [.var 48])))
 (.ret [.bool false]))
 (.call 158 [.var 0,.var 1,.var 2,.var 3,.var 4,.var 5,.var 6,.var 7,.var 8,.var 9,.var 10,.var 11,.var 12,.var 13,.var 14] 48
 (.ite (.eq (.var 30) (.var 54))
 (.need (.clean (.var 29) 15)
 (.call 142 [.var 24,.var 25,.var 26,.var 27,.var 28,.shuts (.var 29) 15,.var 48,.var 49,.var 50,.var 51,.var 52,.var 53] 55
 (.ret [.var 55])))
 (.ret [.bool false]))))))))))))))))))))))))))))))
theorem run37 : run z37 6000 [.code (Try.f37.body.getD .skip),.fin (bt z37 Try.f37.results.toList 50)] { fn:=37,tmps:=z37.sig.aM ++ List.replicate (Try.f37.ntmps - z37.sig.aM.length) (.v (.one .undef)),stk:=[],h:=z37.sig.h0,nx:=z37.sig.ins.length,known:=[]}=t37:=by kernel_rfl
set_option maxHeartbeats 4000000 in
theorem ok37 : cB Try.prog 37 d37.ct:=by
 refine aD (d:=d37) (Z:=z37) (Γ:=gam l37) (fn:=Try.f37) (c:=Try.f37.body.getD .skip) (bg tok mixed (all_cons ok156 (all_cons ok140 (all_cons ok78 (all_cons ok141 (all_cons ok79 (all_cons ok157 (all_cons ok142 (all_cons ok158 (all_cons ok61 all_nil))))))))) bh) Try.func37 (by kernel_rfl) (by kernel_rfl) rfl run37 fun E hk hp=>?_
 obtain ⟨hk0,hk1,hk2,hk3,hk4,hk5,hk6,hk7,hk8,hk9,hk10,hk11,hk12,hk13,hk14,hk15,hk16,hk17,_⟩:=hk
 obtain ⟨m,e0,e1,e2,e3,e4,b0,b1,b2,b3⟩:=cv (d0:=E 0) (d1:=E 1) (d2:=E 2) (d3:=E 3) (d4:=E 4) hk0 hk1 hk2 hk3 hk4
 obtain ⟨ts,e5,hts,b5⟩:=hU (d:=E 5) hk5
 have b5 : ts.length * 160≤140737488355328:=b5
 obtain ⟨x,e6,e7,e8,e9,e10,e11,e12,e13,e14⟩:=vL (d0:=E 6) (d1:=E 7) (d2:=E 8) (d3:=E 9) (d4:=E 10) (d5:=E 11) (d6:=E 12) (d7:=E 13) (d8:=E 14) hk6 hk7 hk8 hk9 hk10 hk11 hk12 hk13 hk14
 obtain ⟨x2,e15⟩:=ok_int (d:=E 15) hk15
 obtain ⟨x3,e16⟩:=ok_int (d:=E 16) hk16
 obtain ⟨x4,e17⟩:=ok_int (d:=E 17) hk17
 have el : aH E d37.sig.ins.length=[au m.slots,af m.heads,af m.free,af m.locks,.i m.now,G2 ts,.i x.task,.b x.step,.b x.tick,.i x.c.kind,.i x.c.k.a,.i x.c.k.b,.i x.c.time,.i x.c.bucket,.i x.c.slot,.i x2,.i x3,.i x4]:=by
  show [E 0,E 1,E 2,E 3,E 4,E 5,E 6,E 7,E 8,E 9,E 10,E 11,E 12,E 13,E 14,E 15,E 16,E 17]=_
  rw [e0,e1,e2,e3,e4,e5,e6,e7,e8,e9,e10,e11,e12,e13,e14,e15,e16,e17]
 rw [el] at hp
 rw [el]
 rw [Env.bJ el]
 clear el e0 e1 e2 e3 e4 e5 e6 e7 e8 e9 e10 e11 e12 e13 e14 e15 e16 e17
 have hown : ∀ t∈ts,t.own=false:=fun t ht=>(hts t ht).1
 obtain ⟨v,hv⟩ : ∃ v,doW ⟨m,ts⟩ x=v:=⟨_,rfl⟩
 obtain ⟨e,he⟩ : ∃ e,bL ⟨m,ts⟩=e:=⟨_,rfl⟩
 have f1 : e≠0→v=(Wrd.none,e):=fun h=>by rw [← hv];unfold doW;rw [he,if_pos h]
 have f2 : e=0→Iv ⟨m,ts⟩ x=v:=fun h=>by rw [← hv];show _=doW _ _;unfold doW;rw [if_neg (fun y=>y (he.trans h))];rfl
 obtain ⟨N,hNe⟩ : ∃ N,iw x2 x3 x4=N:=⟨_,rfl⟩
 unfold t37
 refine ai d156 [au m.slots,af m.heads,af m.free,af m.locks,.i m.now,az (ts.map Tsk.bm)] rfl trivial (by simp only [nrm,xdn,reduceIte,Nat.reduceLT,Nat.reduceSub,Nat.reduceAdd,d156,Ba];rfl) (ag (by simp only [nrm,xdn,reduceIte,Nat.reduceLT,Nat.reduceSub,Nat.reduceAdd];exact aI _) ?_)
 refine ai d140 [au v.1.m.slots,af v.1.m.heads,af v.1.m.free,af v.1.m.locks,.i v.1.m.now,az v.1.ts,.i v.2] rfl trivial (by simp only [nrm,xdn,reduceIte,Nat.reduceLT,Nat.reduceSub,Nat.reduceAdd,cg,Im,d140,kr _ _ _ _ _ hown,List.drop_succ_cons,List.drop_zero,oe,aA,cz];rw [← hv];rfl) ?_
 refine ai d78 [au N.1.m.slots,af N.1.m.heads,af N.1.m.free,af N.1.m.locks,.i N.1.m.now,az N.1.ts,.i N.2] rfl trivial (by simp only [nrm,xdn,reduceIte,Nat.reduceLT,Nat.reduceSub,Nat.reduceAdd,d78,hNe];rfl) ?_
 refine ai d141 [.i e] rfl trivial (by simp only [nrm,xdn,reduceIte,Nat.reduceLT,Nat.reduceSub,Nat.reduceAdd,d141,kr _ _ _ _ _ hown,aA,he]) (ai d79 [.b true] rfl trivial rfl (G0 (fun hn=>?_) (fun _=>?_)))
 ·simp only [nrm,xdn,reduceIte,Nat.reduceLT,Nat.reduceSub,Nat.reduceAdd] at hn
  simp at hn
 refine ai d157 [.i e] rfl trivial (by simp only [nrm,xdn,reduceIte,Nat.reduceLT,Nat.reduceSub,Nat.reduceAdd,d157,kr _ _ _ _ _ hown,aA,he]) (G0 (fun hn=>?_) (fun _=>?_))
 ·simp only [nrm,xdn,reduceIte,Nat.reduceLT,Nat.reduceSub,Nat.reduceAdd] at hn
  simp at hn
 refine ai d142 [.b true] rfl trivial (by simp only [nrm,xdn,reduceIte,Nat.reduceLT,Nat.reduceSub,Nat.reduceAdd,cg];exact Hi (a:=⟨m,ts.map Tsk.bm⟩) (b:=⟨m,ts⟩) rfl (Mv ts)) (G0 (fun hn=>?_) (fun _=>?_))
 ·simp only [nrm,xdn,reduceIte,Nat.reduceLT,Nat.reduceSub,Nat.reduceAdd] at hn
  simp at hn
 refine G0 (fun r1=>?_) (fun r1=>?_)
 ·simp only [nrm,xdn,reduceIte,Nat.reduceLT,Nat.reduceSub,Nat.reduceAdd] at r1
  have hN : N=(Wrd.none,3):=hNe.symm.trans (Iw (by omega))
  subst hN
  refine G0 (fun hn=>?_) (fun _=>?_)
  ·simp only [nrm,xdn,reduceIte,Nat.reduceLT,Nat.reduceSub,Nat.reduceAdd] at hn
   simp at hn
  refine ag (by simp only [nrm,xdn,reduceIte,Nat.reduceLT,Nat.reduceSub,Nat.reduceAdd];exact aI _) (ai d142 [.b true] rfl trivial (by simp only [nrm,xdn,reduceIte,Nat.reduceLT,Nat.reduceSub,Nat.reduceAdd,cg];exact Hi (a:=Wrd.none) (b:=Wrd.none) rfl rfl) (G0 (fun hn=>?_) (fun _=>?_)))
  ·simp only [nrm,xdn,reduceIte,Nat.reduceLT,Nat.reduceSub,Nat.reduceAdd] at hn
   simp at hn
  refine G0 (fun hb=>?_) (fun hb=>?_)
  ·simp only [nrm,xdn,reduceIte,Nat.reduceLT,Nat.reduceSub,Nat.reduceAdd] at hb
   have hb : e≠0:=by simpa using hb
   have hv1:=f1 hb
   subst hv1
   refine G0 (fun _=>ag (by simp only [nrm,xdn,reduceIte,Nat.reduceLT,Nat.reduceSub,Nat.reduceAdd];exact aI _) (ai d142 [.b true] rfl trivial (by simp only [nrm,xdn,reduceIte,Nat.reduceLT,Nat.reduceSub,Nat.reduceAdd,cg];exact Hi (a:=Wrd.none) (b:=Wrd.none) rfl rfl) (aj (by simp only [nrm,xdn,reduceIte,Nat.reduceLT,Nat.reduceSub,Nat.reduceAdd];rfl)))) (fun hn=>?_)
   simp only [nrm,xdn,reduceIte,Nat.reduceLT,Nat.reduceSub,Nat.reduceAdd] at hn
   simp at hn
  simp only [nrm,xdn,reduceIte,Nat.reduceLT,Nat.reduceSub,Nat.reduceAdd] at hb
  have hb : e=0:=by simpa using hb
  have hv2:=f2 hb
  refine ai d158 [au v.1.m.slots,af v.1.m.heads,af v.1.m.free,af v.1.m.locks,.i v.1.m.now,G2 v.1.ts,.i v.2] rfl ?_ ?_ ?_
  ·simp only [nrm,xdn,reduceIte,Nat.reduceLT,Nat.reduceSub,Nat.reduceAdd,d158,kr _ _ _ _ _ hown,aA]
   exact Is (he.trans hb)
  ·simp only [nrm,xdn,reduceIte,Nat.reduceLT,Nat.reduceSub,Nat.reduceAdd,d158,kr _ _ _ _ _ hown,aA,List.drop_succ_cons,List.drop_zero,oe,cz]
   rw [hv2]
   rfl
  refine G0 (fun _=>ag (by simp only [nrm,xdn,reduceIte,Nat.reduceLT,Nat.reduceSub,Nat.reduceAdd];exact aI _) (ai d142 [.b true] rfl trivial (by simp only [nrm,xdn,reduceIte,Nat.reduceLT,Nat.reduceSub,Nat.reduceAdd,cg];exact Hi (a:=v.1) (b:=v.1) rfl rfl) (aj (by simp only [nrm,xdn,reduceIte,Nat.reduceLT,Nat.reduceSub,Nat.reduceAdd];rfl)))) (fun hn=>?_)
  simp only [nrm,xdn,reduceIte,Nat.reduceLT,Nat.reduceSub,Nat.reduceAdd] at hn
  simp at hn
 simp only [nrm,xdn,reduceIte,Nat.reduceLT,Nat.reduceSub,Nat.reduceAdd] at r1
 refine G0 (fun r2=>?_) (fun r2=>?_)
 ·simp only [nrm,xdn,reduceIte,Nat.reduceLT,Nat.reduceSub,Nat.reduceAdd] at r2
  have hN : N=(Wrd.none,3):=hNe.symm.trans (Iw (by omega))
  subst hN
  refine G0 (fun hn=>?_) (fun _=>?_)
  ·simp only [nrm,xdn,reduceIte,Nat.reduceLT,Nat.reduceSub,Nat.reduceAdd] at hn
   simp at hn
  refine ag (by simp only [nrm,xdn,reduceIte,Nat.reduceLT,Nat.reduceSub,Nat.reduceAdd];exact aI _) (ai d142 [.b true] rfl trivial (by simp only [nrm,xdn,reduceIte,Nat.reduceLT,Nat.reduceSub,Nat.reduceAdd,cg];exact Hi (a:=Wrd.none) (b:=Wrd.none) rfl rfl) (G0 (fun hn=>?_) (fun _=>?_)))
  ·simp only [nrm,xdn,reduceIte,Nat.reduceLT,Nat.reduceSub,Nat.reduceAdd] at hn
   simp at hn
  refine G0 (fun hb=>?_) (fun hb=>?_)
  ·simp only [nrm,xdn,reduceIte,Nat.reduceLT,Nat.reduceSub,Nat.reduceAdd] at hb
   have hb : e≠0:=by simpa using hb
   have hv1:=f1 hb
   subst hv1
   refine G0 (fun _=>ag (by simp only [nrm,xdn,reduceIte,Nat.reduceLT,Nat.reduceSub,Nat.reduceAdd];exact aI _) (ai d142 [.b true] rfl trivial (by simp only [nrm,xdn,reduceIte,Nat.reduceLT,Nat.reduceSub,Nat.reduceAdd,cg];exact Hi (a:=Wrd.none) (b:=Wrd.none) rfl rfl) (aj (by simp only [nrm,xdn,reduceIte,Nat.reduceLT,Nat.reduceSub,Nat.reduceAdd];rfl)))) (fun hn=>?_)
   simp only [nrm,xdn,reduceIte,Nat.reduceLT,Nat.reduceSub,Nat.reduceAdd] at hn
   simp at hn
  simp only [nrm,xdn,reduceIte,Nat.reduceLT,Nat.reduceSub,Nat.reduceAdd] at hb
  have hb : e=0:=by simpa using hb
  have hv2:=f2 hb
  refine ai d158 [au v.1.m.slots,af v.1.m.heads,af v.1.m.free,af v.1.m.locks,.i v.1.m.now,G2 v.1.ts,.i v.2] rfl ?_ ?_ ?_
  ·simp only [nrm,xdn,reduceIte,Nat.reduceLT,Nat.reduceSub,Nat.reduceAdd,d158,kr _ _ _ _ _ hown,aA]
   exact Is (he.trans hb)
  ·simp only [nrm,xdn,reduceIte,Nat.reduceLT,Nat.reduceSub,Nat.reduceAdd,d158,kr _ _ _ _ _ hown,aA,List.drop_succ_cons,List.drop_zero,oe,cz]
   rw [hv2]
   rfl
  refine G0 (fun _=>ag (by simp only [nrm,xdn,reduceIte,Nat.reduceLT,Nat.reduceSub,Nat.reduceAdd];exact aI _) (ai d142 [.b true] rfl trivial (by simp only [nrm,xdn,reduceIte,Nat.reduceLT,Nat.reduceSub,Nat.reduceAdd,cg];exact Hi (a:=v.1) (b:=v.1) rfl rfl) (aj (by simp only [nrm,xdn,reduceIte,Nat.reduceLT,Nat.reduceSub,Nat.reduceAdd];rfl)))) (fun hn=>?_)
  simp only [nrm,xdn,reduceIte,Nat.reduceLT,Nat.reduceSub,Nat.reduceAdd] at hn
  simp at hn
 simp only [nrm,xdn,reduceIte,Nat.reduceLT,Nat.reduceSub,Nat.reduceAdd] at r2
 refine G0 (fun r3=>?_) (fun r3=>?_)
 ·simp only [nrm,xdn,reduceIte,Nat.reduceLT,Nat.reduceSub,Nat.reduceAdd] at r3
  have hN : N=(Wrd.none,3):=hNe.symm.trans (Iw (by omega))
  subst hN
  refine G0 (fun hn=>?_) (fun _=>?_)
  ·simp only [nrm,xdn,reduceIte,Nat.reduceLT,Nat.reduceSub,Nat.reduceAdd] at hn
   simp at hn
  refine ag (by simp only [nrm,xdn,reduceIte,Nat.reduceLT,Nat.reduceSub,Nat.reduceAdd];exact aI _) (ai d142 [.b true] rfl trivial (by simp only [nrm,xdn,reduceIte,Nat.reduceLT,Nat.reduceSub,Nat.reduceAdd,cg];exact Hi (a:=Wrd.none) (b:=Wrd.none) rfl rfl) (G0 (fun hn=>?_) (fun _=>?_)))
  ·simp only [nrm,xdn,reduceIte,Nat.reduceLT,Nat.reduceSub,Nat.reduceAdd] at hn
   simp at hn
  refine G0 (fun hb=>?_) (fun hb=>?_)
  ·simp only [nrm,xdn,reduceIte,Nat.reduceLT,Nat.reduceSub,Nat.reduceAdd] at hb
   have hb : e≠0:=by simpa using hb
   have hv1:=f1 hb
   subst hv1
   refine G0 (fun _=>ag (by simp only [nrm,xdn,reduceIte,Nat.reduceLT,Nat.reduceSub,Nat.reduceAdd];exact aI _) (ai d142 [.b true] rfl trivial (by simp only [nrm,xdn,reduceIte,Nat.reduceLT,Nat.reduceSub,Nat.reduceAdd,cg];exact Hi (a:=Wrd.none) (b:=Wrd.none) rfl rfl) (aj (by simp only [nrm,xdn,reduceIte,Nat.reduceLT,Nat.reduceSub,Nat.reduceAdd];rfl)))) (fun hn=>?_)
   simp only [nrm,xdn,reduceIte,Nat.reduceLT,Nat.reduceSub,Nat.reduceAdd] at hn
   simp at hn
  simp only [nrm,xdn,reduceIte,Nat.reduceLT,Nat.reduceSub,Nat.reduceAdd] at hb
  have hb : e=0:=by simpa using hb
  have hv2:=f2 hb
  refine ai d158 [au v.1.m.slots,af v.1.m.heads,af v.1.m.free,af v.1.m.locks,.i v.1.m.now,G2 v.1.ts,.i v.2] rfl ?_ ?_ ?_
  ·simp only [nrm,xdn,reduceIte,Nat.reduceLT,Nat.reduceSub,Nat.reduceAdd,d158,kr _ _ _ _ _ hown,aA]
   exact Is (he.trans hb)
  ·simp only [nrm,xdn,reduceIte,Nat.reduceLT,Nat.reduceSub,Nat.reduceAdd,d158,kr _ _ _ _ _ hown,aA,List.drop_succ_cons,List.drop_zero,oe,cz]
   rw [hv2]
   rfl
  refine G0 (fun _=>ag (by simp only [nrm,xdn,reduceIte,Nat.reduceLT,Nat.reduceSub,Nat.reduceAdd];exact aI _) (ai d142 [.b true] rfl trivial (by simp only [nrm,xdn,reduceIte,Nat.reduceLT,Nat.reduceSub,Nat.reduceAdd,cg];exact Hi (a:=v.1) (b:=v.1) rfl rfl) (aj (by simp only [nrm,xdn,reduceIte,Nat.reduceLT,Nat.reduceSub,Nat.reduceAdd];rfl)))) (fun hn=>?_)
  simp only [nrm,xdn,reduceIte,Nat.reduceLT,Nat.reduceSub,Nat.reduceAdd] at hn
  simp at hn
 simp only [nrm,xdn,reduceIte,Nat.reduceLT,Nat.reduceSub,Nat.reduceAdd] at r3
 refine G0 (fun r4=>?_) (fun r4=>?_)
 ·simp only [nrm,xdn,reduceIte,Nat.reduceLT,Nat.reduceSub,Nat.reduceAdd] at r4
  have hN : N=(Wrd.none,3):=hNe.symm.trans (Iw (by omega))
  subst hN
  refine G0 (fun hn=>?_) (fun _=>?_)
  ·simp only [nrm,xdn,reduceIte,Nat.reduceLT,Nat.reduceSub,Nat.reduceAdd] at hn
   simp at hn
  refine ag (by simp only [nrm,xdn,reduceIte,Nat.reduceLT,Nat.reduceSub,Nat.reduceAdd];exact aI _) (ai d142 [.b true] rfl trivial (by simp only [nrm,xdn,reduceIte,Nat.reduceLT,Nat.reduceSub,Nat.reduceAdd,cg];exact Hi (a:=Wrd.none) (b:=Wrd.none) rfl rfl) (G0 (fun hn=>?_) (fun _=>?_)))
  ·simp only [nrm,xdn,reduceIte,Nat.reduceLT,Nat.reduceSub,Nat.reduceAdd] at hn
   simp at hn
  refine G0 (fun hb=>?_) (fun hb=>?_)
  ·simp only [nrm,xdn,reduceIte,Nat.reduceLT,Nat.reduceSub,Nat.reduceAdd] at hb
   have hb : e≠0:=by simpa using hb
   have hv1:=f1 hb
   subst hv1
   refine G0 (fun _=>ag (by simp only [nrm,xdn,reduceIte,Nat.reduceLT,Nat.reduceSub,Nat.reduceAdd];exact aI _) (ai d142 [.b true] rfl trivial (by simp only [nrm,xdn,reduceIte,Nat.reduceLT,Nat.reduceSub,Nat.reduceAdd,cg];exact Hi (a:=Wrd.none) (b:=Wrd.none) rfl rfl) (aj (by simp only [nrm,xdn,reduceIte,Nat.reduceLT,Nat.reduceSub,Nat.reduceAdd];rfl)))) (fun hn=>?_)
   simp only [nrm,xdn,reduceIte,Nat.reduceLT,Nat.reduceSub,Nat.reduceAdd] at hn
   simp at hn
  simp only [nrm,xdn,reduceIte,Nat.reduceLT,Nat.reduceSub,Nat.reduceAdd] at hb
  have hb : e=0:=by simpa using hb
  have hv2:=f2 hb
  refine ai d158 [au v.1.m.slots,af v.1.m.heads,af v.1.m.free,af v.1.m.locks,.i v.1.m.now,G2 v.1.ts,.i v.2] rfl ?_ ?_ ?_
  ·simp only [nrm,xdn,reduceIte,Nat.reduceLT,Nat.reduceSub,Nat.reduceAdd,d158,kr _ _ _ _ _ hown,aA]
   exact Is (he.trans hb)
  ·simp only [nrm,xdn,reduceIte,Nat.reduceLT,Nat.reduceSub,Nat.reduceAdd,d158,kr _ _ _ _ _ hown,aA,List.drop_succ_cons,List.drop_zero,oe,cz]
   rw [hv2]
   rfl
  refine G0 (fun _=>ag (by simp only [nrm,xdn,reduceIte,Nat.reduceLT,Nat.reduceSub,Nat.reduceAdd];exact aI _) (ai d142 [.b true] rfl trivial (by simp only [nrm,xdn,reduceIte,Nat.reduceLT,Nat.reduceSub,Nat.reduceAdd,cg];exact Hi (a:=v.1) (b:=v.1) rfl rfl) (aj (by simp only [nrm,xdn,reduceIte,Nat.reduceLT,Nat.reduceSub,Nat.reduceAdd];rfl)))) (fun hn=>?_)
  simp only [nrm,xdn,reduceIte,Nat.reduceLT,Nat.reduceSub,Nat.reduceAdd] at hn
  simp at hn
 simp only [nrm,xdn,reduceIte,Nat.reduceLT,Nat.reduceSub,Nat.reduceAdd] at r4
 refine G0 (fun r5=>?_) (fun r5=>?_)
 ·simp only [nrm,xdn,reduceIte,Nat.reduceLT,Nat.reduceSub,Nat.reduceAdd] at r5
  have hN : N=(Wrd.none,3):=hNe.symm.trans (Iw (by omega))
  subst hN
  refine G0 (fun hn=>?_) (fun _=>?_)
  ·simp only [nrm,xdn,reduceIte,Nat.reduceLT,Nat.reduceSub,Nat.reduceAdd] at hn
   simp at hn
  refine ag (by simp only [nrm,xdn,reduceIte,Nat.reduceLT,Nat.reduceSub,Nat.reduceAdd];exact aI _) (ai d142 [.b true] rfl trivial (by simp only [nrm,xdn,reduceIte,Nat.reduceLT,Nat.reduceSub,Nat.reduceAdd,cg];exact Hi (a:=Wrd.none) (b:=Wrd.none) rfl rfl) (G0 (fun hn=>?_) (fun _=>?_)))
  ·simp only [nrm,xdn,reduceIte,Nat.reduceLT,Nat.reduceSub,Nat.reduceAdd] at hn
   simp at hn
  refine G0 (fun hb=>?_) (fun hb=>?_)
  ·simp only [nrm,xdn,reduceIte,Nat.reduceLT,Nat.reduceSub,Nat.reduceAdd] at hb
   have hb : e≠0:=by simpa using hb
   have hv1:=f1 hb
   subst hv1
   refine G0 (fun _=>ag (by simp only [nrm,xdn,reduceIte,Nat.reduceLT,Nat.reduceSub,Nat.reduceAdd];exact aI _) (ai d142 [.b true] rfl trivial (by simp only [nrm,xdn,reduceIte,Nat.reduceLT,Nat.reduceSub,Nat.reduceAdd,cg];exact Hi (a:=Wrd.none) (b:=Wrd.none) rfl rfl) (aj (by simp only [nrm,xdn,reduceIte,Nat.reduceLT,Nat.reduceSub,Nat.reduceAdd];rfl)))) (fun hn=>?_)
   simp only [nrm,xdn,reduceIte,Nat.reduceLT,Nat.reduceSub,Nat.reduceAdd] at hn
   simp at hn
  simp only [nrm,xdn,reduceIte,Nat.reduceLT,Nat.reduceSub,Nat.reduceAdd] at hb
  have hb : e=0:=by simpa using hb
  have hv2:=f2 hb
  refine ai d158 [au v.1.m.slots,af v.1.m.heads,af v.1.m.free,af v.1.m.locks,.i v.1.m.now,G2 v.1.ts,.i v.2] rfl ?_ ?_ ?_
  ·simp only [nrm,xdn,reduceIte,Nat.reduceLT,Nat.reduceSub,Nat.reduceAdd,d158,kr _ _ _ _ _ hown,aA]
   exact Is (he.trans hb)
  ·simp only [nrm,xdn,reduceIte,Nat.reduceLT,Nat.reduceSub,Nat.reduceAdd,d158,kr _ _ _ _ _ hown,aA,List.drop_succ_cons,List.drop_zero,oe,cz]
   rw [hv2]
   rfl
  refine G0 (fun _=>ag (by simp only [nrm,xdn,reduceIte,Nat.reduceLT,Nat.reduceSub,Nat.reduceAdd];exact aI _) (ai d142 [.b true] rfl trivial (by simp only [nrm,xdn,reduceIte,Nat.reduceLT,Nat.reduceSub,Nat.reduceAdd,cg];exact Hi (a:=v.1) (b:=v.1) rfl rfl) (aj (by simp only [nrm,xdn,reduceIte,Nat.reduceLT,Nat.reduceSub,Nat.reduceAdd];rfl)))) (fun hn=>?_)
  simp only [nrm,xdn,reduceIte,Nat.reduceLT,Nat.reduceSub,Nat.reduceAdd] at hn
  simp at hn
 simp only [nrm,xdn,reduceIte,Nat.reduceLT,Nat.reduceSub,Nat.reduceAdd] at r5
 refine G0 (fun r6=>?_) (fun r6=>?_)
 ·simp only [nrm,xdn,reduceIte,Nat.reduceLT,Nat.reduceSub,Nat.reduceAdd] at r6
  have hN : N=(Wrd.none,3):=hNe.symm.trans (Iw (by omega))
  subst hN
  refine G0 (fun hn=>?_) (fun _=>?_)
  ·simp only [nrm,xdn,reduceIte,Nat.reduceLT,Nat.reduceSub,Nat.reduceAdd] at hn
   simp at hn
  refine ag (by simp only [nrm,xdn,reduceIte,Nat.reduceLT,Nat.reduceSub,Nat.reduceAdd];exact aI _) (ai d142 [.b true] rfl trivial (by simp only [nrm,xdn,reduceIte,Nat.reduceLT,Nat.reduceSub,Nat.reduceAdd,cg];exact Hi (a:=Wrd.none) (b:=Wrd.none) rfl rfl) (G0 (fun hn=>?_) (fun _=>?_)))
  ·simp only [nrm,xdn,reduceIte,Nat.reduceLT,Nat.reduceSub,Nat.reduceAdd] at hn
   simp at hn
  refine G0 (fun hb=>?_) (fun hb=>?_)
  ·simp only [nrm,xdn,reduceIte,Nat.reduceLT,Nat.reduceSub,Nat.reduceAdd] at hb
   have hb : e≠0:=by simpa using hb
   have hv1:=f1 hb
   subst hv1
   refine G0 (fun _=>ag (by simp only [nrm,xdn,reduceIte,Nat.reduceLT,Nat.reduceSub,Nat.reduceAdd];exact aI _) (ai d142 [.b true] rfl trivial (by simp only [nrm,xdn,reduceIte,Nat.reduceLT,Nat.reduceSub,Nat.reduceAdd,cg];exact Hi (a:=Wrd.none) (b:=Wrd.none) rfl rfl) (aj (by simp only [nrm,xdn,reduceIte,Nat.reduceLT,Nat.reduceSub,Nat.reduceAdd];rfl)))) (fun hn=>?_)
   simp only [nrm,xdn,reduceIte,Nat.reduceLT,Nat.reduceSub,Nat.reduceAdd] at hn
   simp at hn
  simp only [nrm,xdn,reduceIte,Nat.reduceLT,Nat.reduceSub,Nat.reduceAdd] at hb
  have hb : e=0:=by simpa using hb
  have hv2:=f2 hb
  refine ai d158 [au v.1.m.slots,af v.1.m.heads,af v.1.m.free,af v.1.m.locks,.i v.1.m.now,G2 v.1.ts,.i v.2] rfl ?_ ?_ ?_
  ·simp only [nrm,xdn,reduceIte,Nat.reduceLT,Nat.reduceSub,Nat.reduceAdd,d158,kr _ _ _ _ _ hown,aA]
   exact Is (he.trans hb)
  ·simp only [nrm,xdn,reduceIte,Nat.reduceLT,Nat.reduceSub,Nat.reduceAdd,d158,kr _ _ _ _ _ hown,aA,List.drop_succ_cons,List.drop_zero,oe,cz]
   rw [hv2]
   rfl
  refine G0 (fun _=>ag (by simp only [nrm,xdn,reduceIte,Nat.reduceLT,Nat.reduceSub,Nat.reduceAdd];exact aI _) (ai d142 [.b true] rfl trivial (by simp only [nrm,xdn,reduceIte,Nat.reduceLT,Nat.reduceSub,Nat.reduceAdd,cg];exact Hi (a:=v.1) (b:=v.1) rfl rfl) (aj (by simp only [nrm,xdn,reduceIte,Nat.reduceLT,Nat.reduceSub,Nat.reduceAdd];rfl)))) (fun hn=>?_)
  simp only [nrm,xdn,reduceIte,Nat.reduceLT,Nat.reduceSub,Nat.reduceAdd] at hn
  simp at hn
 simp only [nrm,xdn,reduceIte,Nat.reduceLT,Nat.reduceSub,Nat.reduceAdd] at r6
 obtain ⟨k,rfl⟩ : ∃ k : Nat,x4=k:=⟨x4.toNat,by omega⟩
 have hm0 : (dx x2 x3).2=0:=by unfold dx;rw [if_neg (by omega)]
 have hN : N=(⟨(dx x2 x3).1,List.replicate k idle⟩,0):=by rw [← hNe];unfold iw;rw [hm0,if_neg (by decide),if_neg (by omega),Int.toNat_natCast]
 subst hN
 have hrow : CD.l (List.replicate k [.b false,.i 0,.i 0,.i 0,.i 0,.i 0,.i 0,.i 0,.i 0,.i 0,.i 0,.i 0,.l [],.b false,.i 0,.o []])=az (List.replicate k idle):=by
  simp only [az,List.map_replicate];rfl
 refine G0 (fun hn=>?_) (fun _=>pJ ?_ ?_)
 ·simp only [nrm,xdn,reduceIte,Nat.reduceLT,Nat.reduceSub,Nat.reduceAdd] at hn
  simp at hn
 ·refine ai d61 [au (dx x2 x3).1.slots,af (dx x2 x3).1.heads,af (dx x2 x3).1.free,af (dx x2 x3).1.locks,.i (dx x2 x3).1.now] rfl (by simp only [nrm,xdn,reduceIte,Nat.reduceLT,Nat.reduceSub,Nat.reduceAdd,d61];omega) (by simp only [nrm,xdn,reduceIte,Nat.reduceLT,Nat.reduceSub,Nat.reduceAdd,d61];rfl) ?_
  refine ag (by simp only [nrm,xdn,reduceIte,Nat.reduceLT,Nat.reduceSub,Nat.reduceAdd];omega) (ag (by simp only [nrm,xdn,reduceIte,Nat.reduceLT,Nat.reduceSub,Nat.reduceAdd];omega) ?_)
  refine ag (by simp only [nrm,xdn,reduceIte,Nat.reduceLT,Nat.reduceSub,Nat.reduceAdd];exact aI _) (ag ?_ (ai d142 [.b true] rfl trivial ?_ (G0 (fun hn=>?_) (fun _=>?_))))
  ·simp only [nrm,xdn,reduceIte,Nat.reduceLT,Nat.reduceSub,Nat.reduceAdd,CD.row,CD.ax,List.headD_cons,Int.toNat_natCast]
   exact cls hrow
  ·simp only [nrm,xdn,reduceIte,Nat.reduceLT,Nat.reduceSub,Nat.reduceAdd,CD.row,CD.ax,List.headD_cons,Int.toNat_natCast,cg]
   rw [List.take_of_length_le (by simp),show (List.replicate k _ : List (List CD))=(az (List.replicate k idle)).rows from congrArg CD.rows hrow,cg]
   exact Hi (a:=⟨(dx x2 x3).1,List.replicate k idle⟩) (b:=⟨(dx x2 x3).1,List.replicate k idle⟩) rfl rfl
  ·simp only [nrm,xdn,reduceIte,Nat.reduceLT,Nat.reduceSub,Nat.reduceAdd] at hn
   simp at hn
  refine G0 (fun hb=>?_) (fun hb=>?_)
  ·simp only [nrm,xdn,reduceIte,Nat.reduceLT,Nat.reduceSub,Nat.reduceAdd] at hb
   have hb : e≠0:=by simpa using hb
   have hv1:=f1 hb
   subst hv1
   refine G0 (fun _=>ag (by simp only [nrm,xdn,reduceIte,Nat.reduceLT,Nat.reduceSub,Nat.reduceAdd];exact aI _) (ai d142 [.b true] rfl trivial (by simp only [nrm,xdn,reduceIte,Nat.reduceLT,Nat.reduceSub,Nat.reduceAdd,cg];exact Hi (a:=Wrd.none) (b:=Wrd.none) rfl rfl) (aj (by simp only [nrm,xdn,reduceIte,Nat.reduceLT,Nat.reduceSub,Nat.reduceAdd];rfl)))) (fun hn=>?_)
   simp only [nrm,xdn,reduceIte,Nat.reduceLT,Nat.reduceSub,Nat.reduceAdd] at hn
   simp at hn
  simp only [nrm,xdn,reduceIte,Nat.reduceLT,Nat.reduceSub,Nat.reduceAdd] at hb
  have hb : e=0:=by simpa using hb
  have hv2:=f2 hb
  refine ai d158 [au v.1.m.slots,af v.1.m.heads,af v.1.m.free,af v.1.m.locks,.i v.1.m.now,G2 v.1.ts,.i v.2] rfl ?_ ?_ ?_
  ·simp only [nrm,xdn,reduceIte,Nat.reduceLT,Nat.reduceSub,Nat.reduceAdd,d158,kr _ _ _ _ _ hown,aA]
   exact Is (he.trans hb)
  ·simp only [nrm,xdn,reduceIte,Nat.reduceLT,Nat.reduceSub,Nat.reduceAdd,d158,kr _ _ _ _ _ hown,aA,List.drop_succ_cons,List.drop_zero,oe,cz]
   rw [hv2]
   rfl
  refine G0 (fun _=>ag (by simp only [nrm,xdn,reduceIte,Nat.reduceLT,Nat.reduceSub,Nat.reduceAdd];exact aI _) (ai d142 [.b true] rfl trivial (by simp only [nrm,xdn,reduceIte,Nat.reduceLT,Nat.reduceSub,Nat.reduceAdd,cg];exact Hi (a:=v.1) (b:=v.1) rfl rfl) (aj (by simp only [nrm,xdn,reduceIte,Nat.reduceLT,Nat.reduceSub,Nat.reduceAdd];rfl)))) (fun hn=>?_)
  simp only [nrm,xdn,reduceIte,Nat.reduceLT,Nat.reduceSub,Nat.reduceAdd] at hn
  simp at hn
 ·refine ag (by simp only [nrm,xdn,reduceIte,Nat.reduceLT,Nat.reduceSub,Nat.reduceAdd];omega) (ag (by simp only [nrm,xdn,reduceIte,Nat.reduceLT,Nat.reduceSub,Nat.reduceAdd];omega) ?_)
  refine ai d61 [au (dx x2 x3).1.slots,af (dx x2 x3).1.heads,af (dx x2 x3).1.free,af (dx x2 x3).1.locks,.i (dx x2 x3).1.now] rfl (by simp only [nrm,xdn,reduceIte,Nat.reduceLT,Nat.reduceSub,Nat.reduceAdd,d61];omega) (by simp only [nrm,xdn,reduceIte,Nat.reduceLT,Nat.reduceSub,Nat.reduceAdd,d61];rfl) ?_
  refine ag (by simp only [nrm,xdn,reduceIte,Nat.reduceLT,Nat.reduceSub,Nat.reduceAdd];exact aI _) (ag ?_ (ai d142 [.b true] rfl trivial ?_ (G0 (fun hn=>?_) (fun _=>?_))))
  ·simp only [nrm,xdn,reduceIte,Nat.reduceLT,Nat.reduceSub,Nat.reduceAdd,CD.row,CD.ax,List.headD_cons,Int.toNat_natCast]
   exact cls hrow
  ·simp only [nrm,xdn,reduceIte,Nat.reduceLT,Nat.reduceSub,Nat.reduceAdd,CD.row,CD.ax,List.headD_cons,Int.toNat_natCast,cg]
   rw [List.take_of_length_le (by simp),show (List.replicate k _ : List (List CD))=(az (List.replicate k idle)).rows from congrArg CD.rows hrow,cg]
   exact Hi (a:=⟨(dx x2 x3).1,List.replicate k idle⟩) (b:=⟨(dx x2 x3).1,List.replicate k idle⟩) rfl rfl
  ·simp only [nrm,xdn,reduceIte,Nat.reduceLT,Nat.reduceSub,Nat.reduceAdd] at hn
   simp at hn
  refine G0 (fun hb=>?_) (fun hb=>?_)
  ·simp only [nrm,xdn,reduceIte,Nat.reduceLT,Nat.reduceSub,Nat.reduceAdd] at hb
   have hb : e≠0:=by simpa using hb
   have hv1:=f1 hb
   subst hv1
   refine G0 (fun _=>ag (by simp only [nrm,xdn,reduceIte,Nat.reduceLT,Nat.reduceSub,Nat.reduceAdd];exact aI _) (ai d142 [.b true] rfl trivial (by simp only [nrm,xdn,reduceIte,Nat.reduceLT,Nat.reduceSub,Nat.reduceAdd,cg];exact Hi (a:=Wrd.none) (b:=Wrd.none) rfl rfl) (aj (by simp only [nrm,xdn,reduceIte,Nat.reduceLT,Nat.reduceSub,Nat.reduceAdd];rfl)))) (fun hn=>?_)
   simp only [nrm,xdn,reduceIte,Nat.reduceLT,Nat.reduceSub,Nat.reduceAdd] at hn
   simp at hn
  simp only [nrm,xdn,reduceIte,Nat.reduceLT,Nat.reduceSub,Nat.reduceAdd] at hb
  have hb : e=0:=by simpa using hb
  have hv2:=f2 hb
  refine ai d158 [au v.1.m.slots,af v.1.m.heads,af v.1.m.free,af v.1.m.locks,.i v.1.m.now,G2 v.1.ts,.i v.2] rfl ?_ ?_ ?_
  ·simp only [nrm,xdn,reduceIte,Nat.reduceLT,Nat.reduceSub,Nat.reduceAdd,d158,kr _ _ _ _ _ hown,aA]
   exact Is (he.trans hb)
  ·simp only [nrm,xdn,reduceIte,Nat.reduceLT,Nat.reduceSub,Nat.reduceAdd,d158,kr _ _ _ _ _ hown,aA,List.drop_succ_cons,List.drop_zero,oe,cz]
   rw [hv2]
   rfl
  refine G0 (fun _=>ag (by simp only [nrm,xdn,reduceIte,Nat.reduceLT,Nat.reduceSub,Nat.reduceAdd];exact aI _) (ai d142 [.b true] rfl trivial (by simp only [nrm,xdn,reduceIte,Nat.reduceLT,Nat.reduceSub,Nat.reduceAdd,cg];exact Hi (a:=v.1) (b:=v.1) rfl rfl) (aj (by simp only [nrm,xdn,reduceIte,Nat.reduceLT,Nat.reduceSub,Nat.reduceAdd];rfl)))) (fun hn=>?_)
  simp only [nrm,xdn,reduceIte,Nat.reduceLT,Nat.reduceSub,Nat.reduceAdd] at hn
  simp at hn
end Go.Proofs.Ytpmamacjepcdmaa
