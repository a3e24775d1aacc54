import Derived.Test.YtpmamacjepcdmaaCMem3
namespace Go.Proofs.Ytpmamacjepcdmaa
open Go Go.Sy Go.RowKit
set_option linter.unusedSimpArgs false
set_option linter.unusedVariables false
def fM0 : Mem:=⟨[default,default],[-1],[1,0],[-1],0⟩
def fM1 : Mem:=⟨[⟨1,⟨1,0⟩,5,false,0⟩,default],[-1],[1],[-1],0⟩
def fM2 : Mem:=⟨[⟨1,⟨1,0⟩,5,false,0⟩,⟨1,⟨2,0⟩,5,false,0⟩],[-1],[],[-1],0⟩
def fM3 : Mem:=⟨[⟨1,⟨1,0⟩,5,false,0⟩,⟨0,⟨2,0⟩,5,false,0⟩],[-1],[1],[-1],0⟩
def fM4 : Mem:=⟨[⟨1,⟨1,0⟩,5,false,0⟩,⟨1,⟨4,0⟩,6,false,0⟩],[-1],[],[-1],0⟩
theorem f0 : dx 2 1=(fM0,0):=by decide +kernel
theorem f1 : taken fM0 ⟨1,0⟩ 5=(fM1,0,0):=by decide +kernel
theorem f2 : taken fM1 ⟨2,0⟩ 5=(fM2,1,0):=by decide +kernel
theorem f3 : taken fM2 ⟨3,0⟩ 5=(Mem.none,0,7):=by decide +kernel
theorem f4 : Gt fM2 1=(fM3,0):=by decide +kernel
theorem f5 : taken fM3 ⟨4,0⟩ 6=(fM4,1,0):=by decide +kernel
theorem fn57 (a b : Int) : d57.fn [.i a,.i b]=(dx a b).1.cds ++ [.i (dx a b).2]:=rfl
def s50 : Sig:=⟨[],[.one (.bool)]⟩
def d50 : DC:=⟨s50,fun _=>True,fun _=>[.b true]⟩
def l50 : List (Nat × Ct):=[(57,d57.ct),(54,d54.ct),(64,d64.ct)]
def z50 : Cx:={ T:=ttA,C:=sigs l50,F:=[],hints:=[],sig:=s50}
def t50 : Tree :=
 (.call 57 [.int 2,.int 1] 0
 (.call 54 [.var 0,.var 1,.var 2,.var 3,.var 4,.int 1,.int 0,.int 5] 6
 (.call 54 [.var 6,.var 7,.var 8,.var 9,.var 10,.int 2,.int 0,.int 5] 13
 (.call 54 [.var 13,.var 14,.var 15,.var 16,.var 17,.int 3,.int 0,.int 5] 20
 (.call 64 [.var 13,.var 14,.var 15,.var 16,.var 17,.var 18] 27
 (.call 54 [.var 27,.var 28,.var 29,.var 30,.var 31,.int 4,.int 0,.int 6] 33
 (.ite (.eq (.var 5) (.int 0))
 (.ite (.eq (.var 12) (.int 0))
 (.ite (.eq (.var 19) (.int 0))
 (.ite (.eq (.var 26) (.int 7))
 (.ite (.eq (.var 32) (.int 0))
 (.ite (.eq (.var 39) (.int 0))
 (.ite (.eq (.var 11) (.int 0))
 (.ite (.eq (.var 18) (.int 1))
 (.ite (.eq (.var 38) (.int 1))
 (.ite (.eq (.len (.var 33)) (.int 2))
 (.need (.lt (.int 1) (.len (.var 33)))
 (.ret [.and (.eq (.cell (.var 33) (.int 1) 1) (.int 4)) (.and (.eq (.cell (.var 33) (.int 1) 2) (.int 0)) (.bool true))]))
 (.ret [.bool false]))
 (.ret [.bool false]))
 (.ret [.bool false]))
 (.ret [.bool false]))
 (.ret [.bool false]))
 (.ret [.bool false]))
 (.ret [.bool false]))
 (.ret [.bool false]))
 (.ret [.bool false]))
 (.ret [.bool false]))))))))
theorem run50 : run z50 6000 [.code (Try.f50.body.getD .skip),.fin (bt z50 Try.f50.results.toList 50)] { fn:=50,tmps:=z50.sig.aM ++ List.replicate (Try.f50.ntmps - z50.sig.aM.length) (.v (.one .undef)),stk:=[],h:=z50.sig.h0,nx:=z50.sig.ins.length,known:=[]}=t50:=by kernel_rfl
theorem ok50 : cB Try.prog 50 d50.ct:=by
 refine aD (d:=d50) (Z:=z50) (Γ:=gam l50) (fn:=Try.f50) (c:=Try.f50.body.getD .skip) (bg tok mixed (all_cons ok57 (all_cons ok54 (all_cons ok64 all_nil))) bh) Try.func50 (by kernel_rfl) (by kernel_rfl) rfl run50 fun E hk hp=>?_
 clear hk
 have el : aH E d50.sig.ins.length=[]:=rfl
 rw [el] at hp
 rw [el]
 rw [Env.bJ el]
 clear el
 simp only [d50]
 unfold t50
 refine ai d57 (fM0.cds ++ [.i 0]) rfl trivial (by simp only [nrm,xdn,reduceIte,Nat.reduceLT,Nat.reduceSub,Nat.reduceAdd,fn57,f0]) ?_
 refine ai d54 (fM1.cds ++ [.i 0,.i 0]) rfl trivial (by simp only [nrm,xdn,reduceIte,Nat.reduceLT,Nat.reduceSub,Nat.reduceAdd,Mem.cds,lca,fn54,f1]) ?_
 refine ai d54 (fM2.cds ++ [.i 1,.i 0]) rfl trivial (by simp only [nrm,xdn,reduceIte,Nat.reduceLT,Nat.reduceSub,Nat.reduceAdd,Mem.cds,lca,fn54,f2]) ?_
 refine ai d54 (Mem.none.cds ++ [.i 0,.i 7]) rfl trivial (by simp only [nrm,xdn,reduceIte,Nat.reduceLT,Nat.reduceSub,Nat.reduceAdd,Mem.cds,lca,fn54,f3]) ?_
 refine ai d64 (fM3.cds ++ [.i 0]) rfl trivial (by simp only [nrm,xdn,reduceIte,Nat.reduceLT,Nat.reduceSub,Nat.reduceAdd,Mem.cds,lca,fn64,f4]) ?_
 refine ai d54 (fM4.cds ++ [.i 1,.i 0]) rfl trivial (by simp only [nrm,xdn,reduceIte,Nat.reduceLT,Nat.reduceSub,Nat.reduceAdd,Mem.cds,lca,fn54,f5]) ?_
 repeat (first
  | refine lv ?_ (aj ?_)
  | refine G0 (fun _=>?_) (fun h=>absurd h ?_))
 all_goals simp only [nrm,xdn,reduceIte,Nat.reduceLT,Nat.reduceSub,Nat.reduceAdd,Mem.cds,lca,aN]
 all_goals first
  | rfl
  | decide
def s42 : Sig:=⟨[],[.one (.bool)]⟩
def d42 : DC:=⟨s42,fun _=>True,fun _=>[.b true]⟩
def gM0 : Mem:=⟨[default],[-1],[0],[-1],0⟩
theorem g0 : dx 1 1=(gM0,0):=by decide +kernel
theorem g1 : eO gM0 (aX ⟨1,⟨0,0⟩,0,0,0⟩)=0:=by decide +kernel
theorem g2 : eO gM0 (ay (aX ⟨1,⟨0,0⟩,0,0,0⟩) 7)=3:=by decide +kernel
theorem fn41 (a b c d e f : Int) : d41.fn [.i a,.i b,.i c,.i d,.i e,.i f]=(aX ⟨a,⟨b,c⟩,d,e,f⟩).cds:=rfl
theorem fn44 (f : Frm) (e : Int) : d44.fn [.i f.c.kind,.i f.c.k.a,.i f.c.k.b,.i f.c.time,.i f.c.bucket,.i f.c.slot,.i f.pc,.i f.cur,.i f.prev,.i f.slot,.i f.n,bS f.keys,.b f.done,.i f.e,.i e]=(ay f e).cds:=by
 simp only [d44,dJ,List.getD_cons_zero,List.getD_cons_succ,CD.aR]
theorem fn43 (m : Mem) (f : Frm) : d43.fn [au m.slots,af m.heads,af m.free,af m.locks,.i m.now,.i f.c.kind,.i f.c.k.a,.i f.c.k.b,.i f.c.time,.i f.c.bucket,.i f.c.slot,.i f.pc,.i f.cur,.i f.prev,.i f.slot,.i f.n,bS f.keys,.b f.done,.i f.e]=[.i (eO m f)]:=by
 simp only [d43,mem_of,aA,List.drop_succ_cons,List.drop_zero,dJ]
theorem fn40 (m : Mem) (c : Cal) : d40.fn [au m.slots,af m.heads,af m.free,af m.locks,.i m.now,.i c.kind,.i c.k.a,.i c.k.b,.i c.time,.i c.bucket,.i c.slot]=[.i (bf m c)]:=by
 simp only [d40,mem_of,aA,List.drop_succ_cons,List.drop_zero,fG,cz]
def l42 : List (Nat × Ct):=[(57,d57.ct),(41,d41.ct),(44,d44.ct),(43,d43.ct)]
def z42 : Cx:={ T:=ttA,C:=sigs l42,F:=[],hints:=[],sig:=s42}
def t42 : Tree :=
 (.call 57 [.int 1,.int 1] 0
 (.call 41 [.int 1,.int 0,.int 0,.int 0,.int 0,.int 0] 6
 (.call 44 [.var 6,.var 7,.var 8,.var 9,.var 10,.var 11,.var 12,.var 13,.var 14,.var 15,.var 16,.var 17,.var 18,.var 19,.int 7] 20
 (.ite (.eq (.var 5) (.int 0))
 (.call 43 [.var 0,.var 1,.var 2,.var 3,.var 4,.var 6,.var 7,.var 8,.var 9,.var 10,.var 11,.var 12,.var 13,.var 14,.var 15,.var 16,.var 17,.var 18,.var 19] 34
 (.ite (.eq (.var 34) (.int 0))
 (.ite (.eq (.var 15) (.int (-1)))
 (.ite (.var 32)
 (.ite (.eq (.var 33) (.int 7))
 (.call 43 [.var 0,.var 1,.var 2,.var 3,.var 4,.var 20,.var 21,.var 22,.var 23,.var 24,.var 25,.var 26,.var 27,.var 28,.var 29,.var 30,.var 31,.var 32,.var 33] 35
 (.ret [.eq (.var 35) (.int 3)]))
 (.ret [.bool false]))
 (.ret [.bool false]))
 (.ret [.bool false]))
 (.ret [.bool false])))
 (.ret [.bool false])))))
theorem run42 : run z42 6000 [.code (Try.f42.body.getD .skip),.fin (bt z42 Try.f42.results.toList 50)] { fn:=42,tmps:=z42.sig.aM ++ List.replicate (Try.f42.ntmps - z42.sig.aM.length) (.v (.one .undef)),stk:=[],h:=z42.sig.h0,nx:=z42.sig.ins.length,known:=[]}=t42:=by kernel_rfl
theorem ok42 : cB Try.prog 42 d42.ct:=by
 refine aD (d:=d42) (Z:=z42) (Γ:=gam l42) (fn:=Try.f42) (c:=Try.f42.body.getD .skip) (bg tok mixed (all_cons ok57 (all_cons ok41 (all_cons ok44 (all_cons ok43 all_nil)))) bh) Try.func42 (by kernel_rfl) (by kernel_rfl) rfl run42 fun E hk hp=>?_
 clear hk
 have el : aH E d42.sig.ins.length=[]:=rfl
 rw [el] at hp
 rw [el]
 rw [Env.bJ el]
 clear el
 simp only [d42]
 unfold t42
 refine ai d57 (gM0.cds ++ [.i 0]) rfl trivial (by simp only [nrm,xdn,reduceIte,Nat.reduceLT,Nat.reduceSub,Nat.reduceAdd,fn57,g0]) ?_
 refine ai d41 (aX ⟨1,⟨0,0⟩,0,0,0⟩).cds rfl trivial (by simp only [nrm,xdn,reduceIte,Nat.reduceLT,Nat.reduceSub,Nat.reduceAdd,fn41]) ?_
 refine ai d44 (ay (aX ⟨1,⟨0,0⟩,0,0,0⟩) 7).cds rfl trivial (by simp only [nrm,xdn,reduceIte,Nat.reduceLT,Nat.reduceSub,Nat.reduceAdd,Frm.cds,fn44]) ?_
 refine G0 (fun _=>?_) (fun h=>absurd h (by simp only [nrm,xdn,reduceIte,Nat.reduceLT,Nat.reduceSub,Nat.reduceAdd,Mem.cds,lca];decide))
 refine ai d43 [.i 0] rfl trivial (by simp only [nrm,xdn,reduceIte,Nat.reduceLT,Nat.reduceSub,Nat.reduceAdd,Mem.cds,Frm.cds,lca,fn43,g1]) ?_
 refine G0 (fun _=>?_) (fun h=>absurd h (by simp only [nrm,xdn,reduceIte,Nat.reduceLT,Nat.reduceSub,Nat.reduceAdd];decide))
 refine G0 (fun _=>?_) (fun h=>absurd h (by simp only [nrm,xdn,reduceIte,Nat.reduceLT,Nat.reduceSub,Nat.reduceAdd,Frm.cds,aX];decide))
 refine G0 (fun _=>?_) (fun h=>absurd h (by simp only [nrm,xdn,reduceIte,Nat.reduceLT,Nat.reduceSub,Nat.reduceAdd,Frm.cds,ay];decide))
 refine G0 (fun _=>?_) (fun h=>absurd h (by simp only [nrm,xdn,reduceIte,Nat.reduceLT,Nat.reduceSub,Nat.reduceAdd,Frm.cds,ay];decide))
 refine ai d43 [.i 3] rfl trivial (by simp only [nrm,xdn,reduceIte,Nat.reduceLT,Nat.reduceSub,Nat.reduceAdd,Mem.cds,Frm.cds,lca,fn43,g2]) (aj ?_)
 simp only [nrm,xdn,reduceIte,Nat.reduceLT,Nat.reduceSub,Nat.reduceAdd]
 rfl
def s4 : Sig:=⟨[.agg [.fz kS,.fz kI,.fz kI,.fz kI,.int .i64],.agg [.int .i64,.int .i64,.int .i64,.int .i64,.int .i64,.int .i64]],[.one (.bool)]⟩
def d4 : DC:=⟨s4,fun _=>True,fun _=>[.b true]⟩
theorem F8 (m : Mem) (c : Cal) : eO m (aX c)=bf m c:=by
 unfold eO
 have e : (aX c).c=c:=rfl
 rw [e]
 by_cases h : bf m c=0
 ·rw [if_neg (fun h'=>h' h),if_neg (by simp only [aX];omega),if_neg (by simp [aX]),if_neg (by simp only [aX];omega),if_neg (by simp [aX]),h]
 ·rw [if_pos h]
def l4 : List (Nat × Ct):=[(40,d40.ct),(41,d41.ct),(42,d42.ct),(43,d43.ct),(44,d44.ct)]
def z4 : Cx:={ T:=ttA,C:=sigs l4,F:=[],hints:=[],sig:=s4}
def t4 : Tree :=
 (.call 40 [.var 0,.var 1,.var 2,.var 3,.var 4,.var 5,.var 6,.var 7,.var 8,.var 9,.var 10] 11
 (.call 41 [.var 5,.var 6,.var 7,.var 8,.var 9,.var 10] 12
 (.call 42 [] 26
 (.ite (.var 26)
 (.call 43 [.var 0,.var 1,.var 2,.var 3,.var 4,.var 12,.var 13,.var 14,.var 15,.var 16,.var 17,.var 18,.var 19,.var 20,.var 21,.var 22,.var 23,.var 24,.var 25] 27
 (.ite (.eq (.var 27) (.var 11))
 (.ite (.not (.var 24))
 (.ite (.eq (.var 18) (.int 0))
 (.ite (.eq (.var 21) (.int (-1)))
 (.call 44 [.var 12,.var 13,.var 14,.var 15,.var 16,.var 17,.var 18,.var 19,.var 20,.var 21,.var 22,.var 23,.var 24,.var 25,.var 11] 28
 (.ret [.var 40]))
 (.ret [.bool false]))
 (.ret [.bool false]))
 (.ret [.bool false]))
 (.ret [.bool false])))
 (.ret [.bool false])))))
theorem run4 : run z4 6000 [.code (Try.f4.body.getD .skip),.fin (bt z4 Try.f4.results.toList 50)] { fn:=4,tmps:=z4.sig.aM ++ List.replicate (Try.f4.ntmps - z4.sig.aM.length) (.v (.one .undef)),stk:=[],h:=z4.sig.h0,nx:=z4.sig.ins.length,known:=[]}=t4:=by kernel_rfl
theorem ok4 : cB Try.prog 4 d4.ct:=by
 refine aD (d:=d4) (Z:=z4) (Γ:=gam l4) (fn:=Try.f4) (c:=Try.f4.body.getD .skip) (bg tok mixed (all_cons ok40 (all_cons ok41 (all_cons ok42 (all_cons ok43 (all_cons ok44 all_nil))))) bh) Try.func4 (by kernel_rfl) (by kernel_rfl) rfl run4 fun E hk hp=>?_
 obtain ⟨hk0,hk1,hk2,hk3,hk4,hk5,hk6,hk7,hk8,hk9,hk10,_⟩:=hk
 obtain ⟨m,e0,e1,e2,e3,e4,b0,b1,b2,b3⟩:=cv (d0:=E 0) (d1:=E 1) (d2:=E 2) (d3:=E 3) (d4:=E 4) hk0 hk1 hk2 hk3 hk4
 obtain ⟨c,e5,e6,e7,e8,e9,e10⟩:=kR (d0:=E 5) (d1:=E 6) (d2:=E 7) (d3:=E 8) (d4:=E 9) (d5:=E 10) hk5 hk6 hk7 hk8 hk9 hk10
 have el : aH E d4.sig.ins.length=[au m.slots,af m.heads,af m.free,af m.locks,.i m.now,.i c.kind,.i c.k.a,.i c.k.b,.i c.time,.i c.bucket,.i c.slot]:=by
  show [E 0,E 1,E 2,E 3,E 4,E 5,E 6,E 7,E 8,E 9,E 10]=_
  rw [e0,e1,e2,e3,e4,e5,e6,e7,e8,e9,e10]
 rw [el] at hp
 rw [el]
 rw [Env.bJ el]
 clear el e0 e1 e2 e3 e4 e5 e6 e7 e8 e9 e10
 simp only [d4]
 unfold t4
 refine ai d40 [.i (bf m c)] rfl trivial (by simp only [nrm,xdn,reduceIte,Nat.reduceLT,Nat.reduceSub,Nat.reduceAdd,fn40]) ?_
 refine ai d41 (aX c).cds rfl trivial (by simp only [nrm,xdn,reduceIte,Nat.reduceLT,Nat.reduceSub,Nat.reduceAdd,fn41,cz]) ?_
 refine ai d42 [.b true] rfl trivial rfl ?_
 refine G0 (fun _=>?_) (fun h=>absurd h (by simp only [nrm,xdn,reduceIte,Nat.reduceLT,Nat.reduceSub,Nat.reduceAdd];decide))
 refine ai d43 [.i (eO m (aX c))] rfl trivial (by simp only [nrm,xdn,reduceIte,Nat.reduceLT,Nat.reduceSub,Nat.reduceAdd,Frm.cds,fn43]) ?_
 refine G0 (fun _=>?_) (fun h=>absurd h (by simp only [nrm,xdn,reduceIte,Nat.reduceLT,Nat.reduceSub,Nat.reduceAdd,F8];simp))
 refine G0 (fun _=>?_) (fun h=>absurd h (by simp only [nrm,xdn,reduceIte,Nat.reduceLT,Nat.reduceSub,Nat.reduceAdd,Frm.cds,aX];decide))
 refine G0 (fun _=>?_) (fun h=>absurd h (by simp only [nrm,xdn,reduceIte,Nat.reduceLT,Nat.reduceSub,Nat.reduceAdd,Frm.cds,aX];decide))
 refine G0 (fun _=>?_) (fun h=>absurd h (by simp only [nrm,xdn,reduceIte,Nat.reduceLT,Nat.reduceSub,Nat.reduceAdd,Frm.cds,aX];decide))
 refine ai d44 (ay (aX c) (bf m c)).cds rfl trivial (by simp only [nrm,xdn,reduceIte,Nat.reduceLT,Nat.reduceSub,Nat.reduceAdd,Frm.cds,fn44]) (aj ?_)
 simp only [nrm,xdn,reduceIte,Nat.reduceLT,Nat.reduceSub,Nat.reduceAdd,Frm.cds,ay]
end Go.Proofs.Ytpmamacjepcdmaa
