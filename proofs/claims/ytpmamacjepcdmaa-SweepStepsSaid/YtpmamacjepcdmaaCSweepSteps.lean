import Derived.Test.YtpmamacjepcdmaaCSwept
import Derived.Test.YtpmamacjepcdmaaCSweep2
namespace Go.Proofs.Ytpmamacjepcdmaa
open Go Go.Sy Go.RowKit
set_option linter.unusedSimpArgs false
set_option linter.unusedVariables false
def s19 : Sig:=⟨[.agg [.fz kS,.fz kI,.fz kI,.fz kI,.int .i64],.agg [.int .i64,.int .i64,.int .i64,.int .i64,.int .i64,.int .i64,.int .i64,.int .i64,.int .i64,.int .i64,.int .i64,.fz kK,.bool,.int .i64],.one (.int .i64),.one (.bool)],[.one (.bool)]⟩
def d19 : DC:=⟨s19,fun _=>True,fun _=>[.b true]⟩
def l19 : List (Nat × Ct):=[(109,d109.ct),(100,d100.ct),(62,d62.ct),(110,d110.ct),(111,d111.ct),(47,d47.ct),(60,d60.ct)]
def z19 : Cx:={ T:=ttA,C:=sigs l19,F:=[],hints:=[],sig:=s19}
def t19 : Tree :=
 (.ite (.var 20)
 (.call 109 [] 21
 (.ite (.not (.var 21))
 (.call 109 [] 22
 (.ret [.var 22]))
 (.call 100 [.var 0,.var 1,.var 2,.var 3,.var 4,.int 5,.var 6,.var 7,.var 8,.var 9,.var 10,.var 11,.var 12,.var 13,.var 14,.var 15,.var 16,.var 17,.var 18] 22
 (.ite (.not (.var 22))
 (.call 109 [] 23
 (.ret [.var 23]))
 (.call 62 [.var 0,.var 1,.var 2,.var 3,.var 4] 23
 (.call 62 [.var 0,.var 1,.var 2,.var 3,.var 4] 28
 (.call 110 [.var 23,.var 24,.var 25,.var 26,.var 27,.int 5,.var 6,.var 7,.var 8,.var 9,.var 10,.var 11,.var 12,.var 13,.var 14,.var 15,.var 16,.var 17,.var 18,.var 19] 33
 (.call 111 [.var 28,.var 29,.var 30,.var 31,.var 32,.int 5,.var 6,.var 7,.var 8,.var 9,.var 10,.var 11,.var 12,.var 13,.var 14,.var 15,.var 16,.var 17,.var 18,.var 19] 52
 (.call 47 [.var 38,.var 39,.var 40,.var 41,.var 42,.var 43,.var 44,.var 45,.var 46,.var 47,.var 48,.var 49,.var 50,.var 51,.var 57,.var 58,.var 59,.var 60,.var 61,.var 62,.var 63,.var 64,.var 65,.var 66,.var 67,.var 68,.var 69,.var 70] 71
 (.ite (.var 71)
 (.call 60 [.var 33,.var 34,.var 35,.var 36,.var 37,.var 52,.var 53,.var 54,.var 55,.var 56] 72
 (.ret [.var 72]))
 (.ret [.bool false])))))))))))
 (.call 109 [] 21
 (.ite (.not (.var 21))
 (.call 109 [] 22
 (.ret [.var 22]))
 (.call 100 [.var 0,.var 1,.var 2,.var 3,.var 4,.int 4,.var 6,.var 7,.var 8,.var 9,.var 10,.var 11,.var 12,.var 13,.var 14,.var 15,.var 16,.var 17,.var 18] 22
 (.ite (.not (.var 22))
 (.call 109 [] 23
 (.ret [.var 23]))
 (.call 62 [.var 0,.var 1,.var 2,.var 3,.var 4] 23
 (.call 62 [.var 0,.var 1,.var 2,.var 3,.var 4] 28
 (.call 110 [.var 23,.var 24,.var 25,.var 26,.var 27,.int 4,.var 6,.var 7,.var 8,.var 9,.var 10,.var 11,.var 12,.var 13,.var 14,.var 15,.var 16,.var 17,.var 18,.var 19] 33
 (.call 111 [.var 28,.var 29,.var 30,.var 31,.var 32,.int 4,.var 6,.var 7,.var 8,.var 9,.var 10,.var 11,.var 12,.var 13,.var 14,.var 15,.var 16,.var 17,.var 18,.var 19] 52
 (.call 47 [.var 38,.var 39,.var 40,.var 41,.var 42,.var 43,.var 44,.var 45,.var 46,.var 47,.var 48,.var 49,.var 50,.var 51,.var 57,.var 58,.var 59,.var 60,.var 61,.var 62,.var 63,.var 64,.var 65,.var 66,.var 67,.var 68,.var 69,.var 70] 71
 (.ite (.var 71)
 (.call 60 [.var 33,.var 34,.var 35,.var 36,.var 37,.var 52,.var 53,.var 54,.var 55,.var 56] 72
 (.ret [.var 72]))
 (.ret [.bool false]))))))))))))
theorem run19 : run z19 6000 [.code (Try.f19.body.getD .skip),.fin (bt z19 Try.f19.results.toList 50)] { fn:=19,tmps:=z19.sig.aM ++ List.replicate (Try.f19.ntmps - z19.sig.aM.length) (.v (.one .undef)),stk:=[],h:=z19.sig.h0,nx:=z19.sig.ins.length,known:=[]}=t19:=by kernel_rfl
theorem ok19 : cB Try.prog 19 d19.ct:=by
 refine aD (d:=d19) (Z:=z19) (Γ:=gam l19) (fn:=Try.f19) (c:=Try.f19.body.getD .skip) (bg tok mixed (all_cons ok109 (all_cons ok100 (all_cons ok62 (all_cons ok110 (all_cons ok111 (all_cons ok47 (all_cons ok60 all_nil))))))) bh) Try.func19 (by kernel_rfl) (by kernel_rfl) rfl run19 fun E hk hp=>?_
 obtain ⟨hk0,hk1,hk2,hk3,hk4,hk5,hk6,hk7,hk8,hk9,hk10,hk11,hk12,hk13,hk14,hk15,hk16,hk17,hk18,hk19,hk20,_⟩:=hk
 obtain ⟨m,e0,e1,e2,e3,e4,b0,b1,b2,b3⟩:=cv (d0:=E 0) (d1:=E 1) (d2:=E 2) (d3:=E 3) (d4:=E 4) hk0 hk1 hk2 hk3 hk4
 obtain ⟨f,e5,e6,e7,e8,e9,e10,e11,e12,e13,e14,e15,e16,e17,e18,b16⟩:=ja (d0:=E 5) (d1:=E 6) (d2:=E 7) (d3:=E 8) (d4:=E 9) (d5:=E 10) (d6:=E 11) (d7:=E 12) (d8:=E 13) (d9:=E 14) (d10:=E 15) (d11:=E 16) (d12:=E 17) (d13:=E 18) hk5 hk6 hk7 hk8 hk9 hk10 hk11 hk12 hk13 hk14 hk15 hk16 hk17 hk18
 obtain ⟨x,e19⟩:=ok_int (d:=E 19) hk19
 obtain ⟨b,e20⟩:=vO (d:=E 20) hk20
 have el : aH E d19.sig.ins.length=[au m.slots,af m.heads,af m.free,af m.locks,.i m.now,.i f.c.kind,.i f.c.k.a,.i f.c.k.b,.i f.c.time,.i f.c.bucket,.i f.c.slot,.i f.pc,.i f.cur,.i f.prev,.i f.slot,.i f.n,bS f.keys,.b f.done,.i f.e,.i x,.b b]:=by
  show [E 0,E 1,E 2,E 3,E 4,E 5,E 6,E 7,E 8,E 9,E 10,E 11,E 12,E 13,E 14,E 15,E 16,E 17,E 18,E 19,E 20]=_
  rw [e0,e1,e2,e3,e4,e5,e6,e7,e8,e9,e10,e11,e12,e13,e14,e15,e16,e17,e18,e19,e20]
 rw [el] at hp
 rw [el]
 rw [Env.bJ el]
 clear el e0 e1 e2 e3 e4 e5 e6 e7 e8 e9 e10 e11 e12 e13 e14 e15 e16 e17 e18 e19 e20
 simp only [d19]
 unfold t19
 refine G0 (fun h=>?_) (fun h=>?_)
 ·skip
  refine ai d109 [.b true] rfl trivial rfl (Fk rfl ?_)
  obtain ⟨F,hF⟩ : ∃ F : Frm,F={ f with c:={ f.c with kind:=5}}:=⟨_,rfl⟩
  have hk : (F.c.kind=4∨F.c.kind=5):=by first | (rw [hF];done) | (rw [hF];exact .inl rfl) | (rw [hF];exact .inr rfl)
  refine ai d100 [.b (decide (cP m=0∧eO m F=0))] rfl trivial (by simp only [nrm,xdn,reduceIte,Nat.reduceLT,Nat.reduceSub,Nat.reduceAdd];rw [hF];exact fn100 m { f with c:={ f.c with kind:=5}}) (G0 (fun h=>?_) (fun h=>?_))
  ·refine ai d109 [.b true] rfl trivial rfl (aj ?_)
   simp only [nrm,xdn,reduceIte,Nat.reduceLT,Nat.reduceSub,Nat.reduceAdd]
  simp only [nrm,xdn,reduceIte,Nat.reduceLT,Nat.reduceSub,Nat.reduceAdd,Bool.not_eq_false',decide_eq_true_eq] at h
  have hm:=((dT m).1 h.1).rJ
  have hf:=(mD m F).1 h.2
  refine ai d62 m.cds rfl trivial (by simp only [nrm,xdn,reduceIte,Nat.reduceLT,Nat.reduceSub,Nat.reduceAdd,fn62]) ?_
  refine ai d62 m.cds rfl trivial (by simp only [nrm,xdn,reduceIte,Nat.reduceLT,Nat.reduceSub,Nat.reduceAdd,Mem.cds,fn62]) ?_
  refine ai d110 ((aB m F x).2.cds ++ (aB m F x).1.cds) rfl (by simp only [nrm,xdn,reduceIte,Nat.reduceLT,Nat.reduceSub,Nat.reduceAdd,Mem.cds];have:=pi110 hm hf hk x;rw [hF] at this;exact this) (by simp only [nrm,xdn,reduceIte,Nat.reduceLT,Nat.reduceSub,Nat.reduceAdd,Mem.cds];rw [hF];exact fn110 m { f with c:={ f.c with kind:=5}} x) ?_
  refine ai d111 ((aB m F x).2.cds ++ (aB m F x).1.cds) rfl (by simp only [nrm,xdn,reduceIte,Nat.reduceLT,Nat.reduceSub,Nat.reduceAdd,Mem.cds];have:=pi111 hm hf hk x;rw [hF] at this;exact this) (by simp only [nrm,xdn,reduceIte,Nat.reduceLT,Nat.reduceSub,Nat.reduceAdd,Mem.cds];rw [hF];exact fn111 m { f with c:={ f.c with kind:=5}} x) ?_
  generalize aB m F x=r
  obtain ⟨g,y⟩:=r
  simp only [Mem.cds,Frm.cds,lca]
  refine ai d47 [.b true] rfl trivial (by simp only [nrm,xdn,reduceIte,Nat.reduceLT,Nat.reduceSub,Nat.reduceAdd,fn47];simp) (Bf rfl ?_)
  refine ai d60 [.b true] rfl trivial (by simp only [nrm,xdn,reduceIte,Nat.reduceLT,Nat.reduceSub,Nat.reduceAdd,fn60];simp) (aj ?_)
  simp only [nrm,xdn,reduceIte,Nat.reduceLT,Nat.reduceSub,Nat.reduceAdd]
 ·skip
  refine ai d109 [.b true] rfl trivial rfl (Fk rfl ?_)
  obtain ⟨F,hF⟩ : ∃ F : Frm,F={ f with c:={ f.c with kind:=4}}:=⟨_,rfl⟩
  have hk : (F.c.kind=4∨F.c.kind=5):=by first | (rw [hF];done) | (rw [hF];exact .inl rfl) | (rw [hF];exact .inr rfl)
  refine ai d100 [.b (decide (cP m=0∧eO m F=0))] rfl trivial (by simp only [nrm,xdn,reduceIte,Nat.reduceLT,Nat.reduceSub,Nat.reduceAdd];rw [hF];exact fn100 m { f with c:={ f.c with kind:=4}}) (G0 (fun h=>?_) (fun h=>?_))
  ·refine ai d109 [.b true] rfl trivial rfl (aj ?_)
   simp only [nrm,xdn,reduceIte,Nat.reduceLT,Nat.reduceSub,Nat.reduceAdd]
  simp only [nrm,xdn,reduceIte,Nat.reduceLT,Nat.reduceSub,Nat.reduceAdd,Bool.not_eq_false',decide_eq_true_eq] at h
  have hm:=((dT m).1 h.1).rJ
  have hf:=(mD m F).1 h.2
  refine ai d62 m.cds rfl trivial (by simp only [nrm,xdn,reduceIte,Nat.reduceLT,Nat.reduceSub,Nat.reduceAdd,fn62]) ?_
  refine ai d62 m.cds rfl trivial (by simp only [nrm,xdn,reduceIte,Nat.reduceLT,Nat.reduceSub,Nat.reduceAdd,Mem.cds,fn62]) ?_
  refine ai d110 ((aB m F x).2.cds ++ (aB m F x).1.cds) rfl (by simp only [nrm,xdn,reduceIte,Nat.reduceLT,Nat.reduceSub,Nat.reduceAdd,Mem.cds];have:=pi110 hm hf hk x;rw [hF] at this;exact this) (by simp only [nrm,xdn,reduceIte,Nat.reduceLT,Nat.reduceSub,Nat.reduceAdd,Mem.cds];rw [hF];exact fn110 m { f with c:={ f.c with kind:=4}} x) ?_
  refine ai d111 ((aB m F x).2.cds ++ (aB m F x).1.cds) rfl (by simp only [nrm,xdn,reduceIte,Nat.reduceLT,Nat.reduceSub,Nat.reduceAdd,Mem.cds];have:=pi111 hm hf hk x;rw [hF] at this;exact this) (by simp only [nrm,xdn,reduceIte,Nat.reduceLT,Nat.reduceSub,Nat.reduceAdd,Mem.cds];rw [hF];exact fn111 m { f with c:={ f.c with kind:=4}} x) ?_
  generalize aB m F x=r
  obtain ⟨g,y⟩:=r
  simp only [Mem.cds,Frm.cds,lca]
  refine ai d47 [.b true] rfl trivial (by simp only [nrm,xdn,reduceIte,Nat.reduceLT,Nat.reduceSub,Nat.reduceAdd,fn47];simp) (Bf rfl ?_)
  refine ai d60 [.b true] rfl trivial (by simp only [nrm,xdn,reduceIte,Nat.reduceLT,Nat.reduceSub,Nat.reduceAdd,fn60];simp) (aj ?_)
  simp only [nrm,xdn,reduceIte,Nat.reduceLT,Nat.reduceSub,Nat.reduceAdd]
end Go.Proofs.Ytpmamacjepcdmaa
