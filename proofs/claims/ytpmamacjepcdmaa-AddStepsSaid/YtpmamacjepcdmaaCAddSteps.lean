import Derived.Test.YtpmamacjepcdmaaCAdded
import Derived.Test.YtpmamacjepcdmaaCAdd2
namespace Go.Proofs.Ytpmamacjepcdmaa
open Go Go.Sy Go.RowKit
set_option linter.unusedSimpArgs false
set_option linter.unusedVariables false
def s18 : Sig:=⟨[.agg [.fz kS,.fz kI,.fz kI,.fz kI,.int .i64],.agg [.int .i64,.int .i64,.int .i64,.int .i64,.int .i64,.int .i64,.int .i64,.int .i64,.int .i64,.int .i64,.int .i64,.fz kK,.bool,.int .i64],.one (.int .i64)],[.one (.bool)]⟩
def d18 : DC:=⟨s18,fun _=>True,fun _=>[.b true]⟩
def l18 : List (Nat × Ct):=[(106,d106.ct),(100,d100.ct),(62,d62.ct),(107,d107.ct),(108,d108.ct),(47,d47.ct),(60,d60.ct)]
def z18 : Cx:={ T:=ttA,C:=sigs l18,F:=[],hints:=[],sig:=s18}
def t18 : Tree :=
 (.call 106 [] 20
 (.ite (.not (.var 20))
 (.call 106 [] 21
 (.ret [.var 21]))
 (.call 100 [.var 0,.var 1,.var 2,.var 3,.var 4,.int 2,.var 6,.var 7,.var 8,.var 9,.var 10,.var 11,.var 12,.var 13,.var 14,.var 15,.var 16,.var 17,.var 18] 21
 (.ite (.not (.var 21))
 (.call 106 [] 22
 (.ret [.var 22]))
 (.call 62 [.var 0,.var 1,.var 2,.var 3,.var 4] 22
 (.call 62 [.var 0,.var 1,.var 2,.var 3,.var 4] 27
 (.call 107 [.var 22,.var 23,.var 24,.var 25,.var 26,.int 2,.var 6,.var 7,.var 8,.var 9,.var 10,.var 11,.var 12,.var 13,.var 14,.var 15,.var 16,.var 17,.var 18,.var 19] 32
 (.call 108 [.var 27,.var 28,.var 29,.var 30,.var 31,.int 2,.var 6,.var 7,.var 8,.var 9,.var 10,.var 11,.var 12,.var 13,.var 14,.var 15,.var 16,.var 17,.var 18,.var 19] 51
 (.call 47 [.var 37,.var 38,.var 39,.var 40,.var 41,.var 42,.var 43,.var 44,.var 45,.var 46,.var 47,.var 48,.var 49,.var 50,.var 56,.var 57,.var 58,.var 59,.var 60,.var 61,.var 62,.var 63,.var 64,.var 65,.var 66,.var 67,.var 68,.var 69] 70
 (.ite (.var 70)
 (.call 60 [.var 32,.var 33,.var 34,.var 35,.var 36,.var 51,.var 52,.var 53,.var 54,.var 55] 71
 (.ret [.var 71]))
 (.ret [.bool false])))))))))))
theorem run18 : run z18 6000 [.code (Try.f18.body.getD .skip),.fin (bt z18 Try.f18.results.toList 50)] { fn:=18,tmps:=z18.sig.aM ++ List.replicate (Try.f18.ntmps - z18.sig.aM.length) (.v (.one .undef)),stk:=[],h:=z18.sig.h0,nx:=z18.sig.ins.length,known:=[]}=t18:=by kernel_rfl
theorem ok18 : cB Try.prog 18 d18.ct:=by
 refine aD (d:=d18) (Z:=z18) (Γ:=gam l18) (fn:=Try.f18) (c:=Try.f18.body.getD .skip) (bg tok mixed (all_cons ok106 (all_cons ok100 (all_cons ok62 (all_cons ok107 (all_cons ok108 (all_cons ok47 (all_cons ok60 all_nil))))))) bh) Try.func18 (by kernel_rfl) (by kernel_rfl) rfl run18 fun E hk hp=>?_
 obtain ⟨hk0,hk1,hk2,hk3,hk4,hk5,hk6,hk7,hk8,hk9,hk10,hk11,hk12,hk13,hk14,hk15,hk16,hk17,hk18,hk19,_⟩:=hk
 obtain ⟨m,e0,e1,e2,e3,e4,b0,b1,b2,b3⟩:=cv (d0:=E 0) (d1:=E 1) (d2:=E 2) (d3:=E 3) (d4:=E 4) hk0 hk1 hk2 hk3 hk4
 obtain ⟨f,e5,e6,e7,e8,e9,e10,e11,e12,e13,e14,e15,e16,e17,e18,b16⟩:=ja (d0:=E 5) (d1:=E 6) (d2:=E 7) (d3:=E 8) (d4:=E 9) (d5:=E 10) (d6:=E 11) (d7:=E 12) (d8:=E 13) (d9:=E 14) (d10:=E 15) (d11:=E 16) (d12:=E 17) (d13:=E 18) hk5 hk6 hk7 hk8 hk9 hk10 hk11 hk12 hk13 hk14 hk15 hk16 hk17 hk18
 obtain ⟨x,e19⟩:=ok_int (d:=E 19) hk19
 have el : aH E d18.sig.ins.length=[au m.slots,af m.heads,af m.free,af m.locks,.i m.now,.i f.c.kind,.i f.c.k.a,.i f.c.k.b,.i f.c.time,.i f.c.bucket,.i f.c.slot,.i f.pc,.i f.cur,.i f.prev,.i f.slot,.i f.n,bS f.keys,.b f.done,.i f.e,.i x]:=by
  show [E 0,E 1,E 2,E 3,E 4,E 5,E 6,E 7,E 8,E 9,E 10,E 11,E 12,E 13,E 14,E 15,E 16,E 17,E 18,E 19]=_
  rw [e0,e1,e2,e3,e4,e5,e6,e7,e8,e9,e10,e11,e12,e13,e14,e15,e16,e17,e18,e19]
 rw [el] at hp
 rw [el]
 rw [Env.bJ el]
 clear el e0 e1 e2 e3 e4 e5 e6 e7 e8 e9 e10 e11 e12 e13 e14 e15 e16 e17 e18 e19
 simp only [d18]
 unfold t18
 refine ai d106 [.b true] rfl trivial rfl (Fk rfl ?_)
 obtain ⟨F,hF⟩ : ∃ F : Frm,F={ f with c:={ f.c with kind:=2}}:=⟨_,rfl⟩
 have hk : F.c.kind=2:=by first | (rw [hF];done) | (rw [hF];exact .inl rfl) | (rw [hF];exact .inr rfl)
 refine ai d100 [.b (decide (cP m=0∧eO m F=0))] rfl trivial (by simp only [nrm,xdn,reduceIte,Nat.reduceLT,Nat.reduceSub,Nat.reduceAdd];rw [hF];exact fn100 m { f with c:={ f.c with kind:=2}}) (G0 (fun h=>?_) (fun h=>?_))
 ·refine ai d106 [.b true] rfl trivial rfl (aj ?_)
  simp only [nrm,xdn,reduceIte,Nat.reduceLT,Nat.reduceSub,Nat.reduceAdd]
 simp only [nrm,xdn,reduceIte,Nat.reduceLT,Nat.reduceSub,Nat.reduceAdd,Bool.not_eq_false',decide_eq_true_eq] at h
 have hm:=((dT m).1 h.1).rJ
 have hf:=(mD m F).1 h.2
 refine ai d62 m.cds rfl trivial (by simp only [nrm,xdn,reduceIte,Nat.reduceLT,Nat.reduceSub,Nat.reduceAdd,fn62]) ?_
 refine ai d62 m.cds rfl trivial (by simp only [nrm,xdn,reduceIte,Nat.reduceLT,Nat.reduceSub,Nat.reduceAdd,Mem.cds,fn62]) ?_
 refine ai d107 ((G3 m F x).2.cds ++ (G3 m F x).1.cds) rfl (by simp only [nrm,xdn,reduceIte,Nat.reduceLT,Nat.reduceSub,Nat.reduceAdd,Mem.cds];have:=pi107 hm hf hk x;rw [hF] at this;exact this) (by simp only [nrm,xdn,reduceIte,Nat.reduceLT,Nat.reduceSub,Nat.reduceAdd,Mem.cds];rw [hF];exact fn107 m { f with c:={ f.c with kind:=2}} x) ?_
 refine ai d108 ((G3 m F x).2.cds ++ (G3 m F x).1.cds) rfl (by simp only [nrm,xdn,reduceIte,Nat.reduceLT,Nat.reduceSub,Nat.reduceAdd,Mem.cds];have:=pi108 hm hf hk x;rw [hF] at this;exact this) (by simp only [nrm,xdn,reduceIte,Nat.reduceLT,Nat.reduceSub,Nat.reduceAdd,Mem.cds];rw [hF];exact fn108 m { f with c:={ f.c with kind:=2}} x) ?_
 generalize G3 m F x=r
 obtain ⟨g,y⟩:=r
 simp only [Mem.cds,Frm.cds,lca]
 refine ai d47 [.b true] rfl trivial (by simp only [nrm,xdn,reduceIte,Nat.reduceLT,Nat.reduceSub,Nat.reduceAdd,fn47];simp) (Bf rfl ?_)
 refine ai d60 [.b true] rfl trivial (by simp only [nrm,xdn,reduceIte,Nat.reduceLT,Nat.reduceSub,Nat.reduceAdd,fn60];simp) (aj ?_)
 simp only [nrm,xdn,reduceIte,Nat.reduceLT,Nat.reduceSub,Nat.reduceAdd]
end Go.Proofs.Ytpmamacjepcdmaa
