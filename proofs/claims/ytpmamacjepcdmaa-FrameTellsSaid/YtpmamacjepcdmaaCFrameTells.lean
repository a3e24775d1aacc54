import Derived.Test.YtpmamacjepcdmaaCRef
import Derived.Test.YtpmamacjepcdmaaCFacts
namespace Go.Proofs.Ytpmamacjepcdmaa
open Go Go.Sy Go.RowKit
set_option linter.unusedSimpArgs false
set_option linter.unusedVariables false
theorem fn48 (m : Mem) (c : Cal) : d48.fn [au m.slots,af m.heads,af m.free,af m.locks,.i m.now,.i c.kind,.i c.k.a,.i c.k.b,.i c.time,.i c.bucket,.i c.slot]=[.i (aa m c)]:=by
 simp only [d48,mem_of,aA,fG,cz,List.drop_succ_cons,List.drop_zero]
def s5 : Sig:=⟨[.agg [.fz kS,.fz kI,.fz kI,.fz kI,.int .i64],.agg [.int .i64,.int .i64,.int .i64,.int .i64,.int .i64,.int .i64],.agg [.int .i64,.int .i64,.int .i64,.int .i64,.int .i64,.int .i64,.int .i64,.int .i64,.int .i64,.int .i64,.int .i64,.fz kK,.bool,.int .i64],.one (.int .i64)],[.one (.bool)]⟩
def d5 : DC:=⟨s5,fun _=>True,fun _=>[.b true]⟩
def l5 : List (Nat × Ct):=[(42,d42.ct),(40,d40.ct),(45,d45.ct),(43,d43.ct),(46,d46.ct),(41,d41.ct),(47,d47.ct),(44,d44.ct),(48,d48.ct),(49,d49.ct)]
def z5 : Cx:={ T:=ttA,C:=sigs l5,F:=[],hints:=[],sig:=s5}
def t5 : Tree :=
 (.call 42 [] 26
 (.ite (.var 26)
 (.call 40 [.var 0,.var 1,.var 2,.var 3,.var 4,.var 5,.var 6,.var 7,.var 8,.var 9,.var 10] 27
 (.call 45 [.var 0,.var 1,.var 2,.var 3,.var 4,.var 5,.var 6,.var 7,.var 8,.var 9,.var 10] 28
 (.ite (.eq (.var 27) (.var 28))
 (.call 43 [.var 0,.var 1,.var 2,.var 3,.var 4,.var 11,.var 12,.var 13,.var 14,.var 15,.var 16,.var 17,.var 18,.var 19,.var 20,.var 21,.var 22,.var 23,.var 24] 29
 (.call 46 [.var 0,.var 1,.var 2,.var 3,.var 4,.var 11,.var 12,.var 13,.var 14,.var 15,.var 16,.var 17,.var 18,.var 19,.var 20,.var 21,.var 22,.var 23,.var 24] 30
 (.ite (.eq (.var 29) (.var 30))
 (.call 41 [.var 5,.var 6,.var 7,.var 8,.var 9,.var 10] 31
 (.call 47 [.var 31,.var 32,.var 33,.var 34,.var 35,.var 36,.var 37,.var 38,.var 39,.var 40,.var 41,.var 42,.var 43,.var 44,.var 5,.var 6,.var 7,.var 8,.var 9,.var 10,.int 0,.int 0,.int 0,.int (-1),.int 0,.nil,.bool false,.int 0] 45
 (.ite (.var 45)
 (.call 44 [.var 11,.var 12,.var 13,.var 14,.var 15,.var 16,.var 17,.var 18,.var 19,.var 20,.var 21,.var 22,.var 23,.var 24,.var 25] 46
 (.call 47 [.var 46,.var 47,.var 48,.var 49,.var 50,.var 51,.var 52,.var 53,.var 54,.var 55,.var 56,.var 57,.var 58,.var 59,.var 11,.var 12,.var 13,.var 14,.var 15,.var 16,.var 17,.var 18,.var 19,.var 20,.var 21,.var 22,.bool true,.var 25] 60
 (.ite (.var 60)
 (.call 48 [.var 0,.var 1,.var 2,.var 3,.var 4,.var 5,.var 6,.var 7,.var 8,.var 9,.var 10] 61
 (.call 49 [.var 0,.var 1,.var 2,.var 3,.var 4,.var 5,.var 6,.var 7,.var 8,.var 9,.var 10] 62
 (.ret [.eq (.var 61) (.var 62)])))
 (.ret [.bool false]))))
 (.ret [.bool false]))))
 (.ret [.bool false]))))
 (.ret [.bool false]))))
 (.ret [.bool false])))
theorem run5 : run z5 6000 [.code (Try.f5.body.getD .skip),.fin (bt z5 Try.f5.results.toList 50)] { fn:=5,tmps:=z5.sig.aM ++ List.replicate (Try.f5.ntmps - z5.sig.aM.length) (.v (.one .undef)),stk:=[],h:=z5.sig.h0,nx:=z5.sig.ins.length,known:=[]}=t5:=by kernel_rfl
theorem ok5 : cB Try.prog 5 d5.ct:=by
 refine aD (d:=d5) (Z:=z5) (Γ:=gam l5) (fn:=Try.f5) (c:=Try.f5.body.getD .skip) (bg tok mixed (all_cons ok42 (all_cons ok40 (all_cons ok45 (all_cons ok43 (all_cons ok46 (all_cons ok41 (all_cons ok47 (all_cons ok44 (all_cons ok48 (all_cons ok49 all_nil)))))))))) bh) Try.func5 (by kernel_rfl) (by kernel_rfl) rfl run5 fun E hk hp=>?_
 obtain ⟨hk0,hk1,hk2,hk3,hk4,hk5,hk6,hk7,hk8,hk9,hk10,hk11,hk12,hk13,hk14,hk15,hk16,hk17,hk18,hk19,hk20,hk21,hk22,hk23,hk24,hk25,_⟩:=hk
 obtain ⟨m,e0,e1,e2,e3,e4,b0,b1,b2,b3⟩:=cv (d0:=E 0) (d1:=E 1) (d2:=E 2) (d3:=E 3) (d4:=E 4) hk0 hk1 hk2 hk3 hk4
 obtain ⟨c,e5,e6,e7,e8,e9,e10⟩:=kR (d0:=E 5) (d1:=E 6) (d2:=E 7) (d3:=E 8) (d4:=E 9) (d5:=E 10) hk5 hk6 hk7 hk8 hk9 hk10
 obtain ⟨f,e11,e12,e13,e14,e15,e16,e17,e18,e19,e20,e21,e22,e23,e24,b22⟩:=ja (d0:=E 11) (d1:=E 12) (d2:=E 13) (d3:=E 14) (d4:=E 15) (d5:=E 16) (d6:=E 17) (d7:=E 18) (d8:=E 19) (d9:=E 20) (d10:=E 21) (d11:=E 22) (d12:=E 23) (d13:=E 24) hk11 hk12 hk13 hk14 hk15 hk16 hk17 hk18 hk19 hk20 hk21 hk22 hk23 hk24
 obtain ⟨x,e25⟩:=ok_int (d:=E 25) hk25
 have el : aH E d5.sig.ins.length=[au m.slots,af m.heads,af m.free,af m.locks,.i m.now,.i c.kind,.i c.k.a,.i c.k.b,.i c.time,.i c.bucket,.i c.slot,.i f.c.kind,.i f.c.k.a,.i f.c.k.b,.i f.c.time,.i f.c.bucket,.i f.c.slot,.i f.pc,.i f.cur,.i f.prev,.i f.slot,.i f.n,bS f.keys,.b f.done,.i f.e,.i x]:=by
  show [E 0,E 1,E 2,E 3,E 4,E 5,E 6,E 7,E 8,E 9,E 10,E 11,E 12,E 13,E 14,E 15,E 16,E 17,E 18,E 19,E 20,E 21,E 22,E 23,E 24,E 25]=_
  rw [e0,e1,e2,e3,e4,e5,e6,e7,e8,e9,e10,e11,e12,e13,e14,e15,e16,e17,e18,e19,e20,e21,e22,e23,e24,e25]
 rw [el] at hp
 rw [el]
 rw [Env.bJ el]
 clear el e0 e1 e2 e3 e4 e5 e6 e7 e8 e9 e10 e11 e12 e13 e14 e15 e16 e17 e18 e19 e20 e21 e22 e23 e24 e25
 simp only [d5]
 unfold t5
 refine ai d42 [.b true] rfl trivial rfl (Bf (by simp only [nrm,xdn,reduceIte,Nat.reduceLT,Nat.reduceSub,Nat.reduceAdd]) ?_)
 refine ai d40 [.i (bf m c)] rfl trivial (by simp only [nrm,xdn,reduceIte,Nat.reduceLT,Nat.reduceSub,Nat.reduceAdd,fn40]) ?_
 refine ai d45 [.i (bf m c)] rfl trivial (by simp only [nrm,xdn,reduceIte,Nat.reduceLT,Nat.reduceSub,Nat.reduceAdd,fn45]) (Bf (by simp only [nrm,xdn,reduceIte,Nat.reduceLT,Nat.reduceSub,Nat.reduceAdd]) ?_)
 refine ai d43 [.i (eO m f)] rfl trivial (by simp only [nrm,xdn,reduceIte,Nat.reduceLT,Nat.reduceSub,Nat.reduceAdd,fn43]) ?_
 refine ai d46 [.i (eO m f)] rfl trivial (by simp only [nrm,xdn,reduceIte,Nat.reduceLT,Nat.reduceSub,Nat.reduceAdd,fn46]) (Bf (by simp only [nrm,xdn,reduceIte,Nat.reduceLT,Nat.reduceSub,Nat.reduceAdd]) ?_)
 refine ai d41 (aX c).cds rfl trivial (by simp only [nrm,xdn,reduceIte,Nat.reduceLT,Nat.reduceSub,Nat.reduceAdd,fn41]) ?_
 refine ai d47 [.b true] rfl trivial ?_ (Bf (by simp only [nrm,xdn,reduceIte,Nat.reduceLT,Nat.reduceSub,Nat.reduceAdd]) ?_)
 ·have:=fn47 (aX c) (aX c)
  rw [decide_eq_true rfl] at this
  simp only [nrm,xdn,reduceIte,Nat.reduceLT,Nat.reduceSub,Nat.reduceAdd,Frm.cds,aX,keys_nil] at this ⊢
  exact this
 refine ai d44 (ay f x).cds rfl trivial (by simp only [nrm,xdn,reduceIte,Nat.reduceLT,Nat.reduceSub,Nat.reduceAdd,fn44]) ?_
 refine ai d47 [.b true] rfl trivial ?_ (Bf (by simp only [nrm,xdn,reduceIte,Nat.reduceLT,Nat.reduceSub,Nat.reduceAdd]) ?_)
 ·have:=fn47 (ay f x) (ay f x)
  rw [decide_eq_true rfl] at this
  simp only [nrm,xdn,reduceIte,Nat.reduceLT,Nat.reduceSub,Nat.reduceAdd,Frm.cds,ay] at this ⊢
  exact this
 refine ai d48 [.i (aa m c)] rfl trivial (by simp only [nrm,xdn,reduceIte,Nat.reduceLT,Nat.reduceSub,Nat.reduceAdd,fn48]) ?_
 refine ai d49 [.i (aa m c)] rfl trivial (by simp only [nrm,xdn,reduceIte,Nat.reduceLT,Nat.reduceSub,Nat.reduceAdd,fn49]) (aj ?_)
 simp only [nrm,xdn,reduceIte,Nat.reduceLT,Nat.reduceSub,Nat.reduceAdd,beq_self_eq_true]
end Go.Proofs.Ytpmamacjepcdmaa
