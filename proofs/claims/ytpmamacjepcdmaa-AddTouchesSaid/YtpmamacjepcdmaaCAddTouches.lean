import Derived.Test.YtpmamacjepcdmaaCAdded
import Derived.Test.YtpmamacjepcdmaaCChanged
namespace Go.Proofs.Ytpmamacjepcdmaa
open Go Go.Sy Go.RowKit
set_option linter.unusedSimpArgs false
set_option linter.unusedVariables false
def s25 : Sig:=⟨[.agg [.fz kS,.fz kI,.fz kI,.fz kI,.int .i64],.agg [.int .i64,.int .i64,.int .i64,.int .i64,.int .i64,.int .i64,.int .i64,.int .i64,.int .i64,.int .i64,.int .i64,.fz kK,.bool,.int .i64],.one (.int .i64)],[.one (.bool)]⟩
def d25 : DC:=⟨s25,fun _=>True,fun _=>[.b true]⟩
def l25 : List (Nat × Ct):=[(106,d106.ct),(100,d100.ct),(62,d62.ct),(107,d107.ct),(48,d48.ct),(122,d122.ct),(43,d43.ct)]
def z25 : Cx:={ T:=ttA,C:=sigs l25,F:=[],hints:=[⟨25,8,false,[(34,.lt)],[],[],[],0,0,false⟩],sig:=s25}
def t25 : Tree :=
 (.call 106 [] 20
 (.ite (.not (.var 20))
 (.call 106 [] 21
 (.ret [.var 21]))
 (.call 100 [.var 0,.var 1,.var 2,.var 3,.var 4,.int 2,.var 6,.var 7,.var 8,.var 9,.var 10,.var 11,.var 12,.var 13,.var 14,.var 15,.var 16,.var 17,.var 18] 21
 (.ite (.not (.var 21))
 (.call 106 [] 22
 (.ret [.var 22]))
 (.call 62 [.var 0,.var 1,.var 2,.var 3,.var 4] 22
 (.call 107 [.var 22,.var 23,.var 24,.var 25,.var 26,.int 2,.var 6,.var 7,.var 8,.var 9,.var 10,.var 11,.var 12,.var 13,.var 14,.var 15,.var 16,.var 17,.var 18,.var 19] 27
 (.call 48 [.var 0,.var 1,.var 2,.var 3,.var 4,.int 2,.var 6,.var 7,.var 8,.var 9,.var 10] 46
 (.loop 47 [.int .i64] [.int 0]
 (.ite (.lt (.var 48) (.len (.var 1)))
 (.ite (.not (.eq (.var 48) (.var 46)))
 (.need (.le (.int 0) (.var 48))
 (.need (.lt (.var 48) (.len (.var 28)))
 (.ite (.not (.eq (.cell (.var 28) (.var 48) 0) (.cell (.var 1) (.var 48) 0)))
 (.ret [.bool false])
 (.need (.lt (.var 48) (.len (.var 30)))
 (.need (.lt (.var 48) (.len (.var 3)))
 (.ite (.not (.eq (.cell (.var 30) (.var 48) 0) (.cell (.var 3) (.var 48) 0)))
 (.ret [.bool false])
 (.need (.fit (.add (.var 48) (.int 1)))
 (.back 47 [.add (.var 48) (.int 1)]))))))))
 (.need (.fit (.add (.var 48) (.int 1)))
 (.back 47 [.add (.var 48) (.int 1)])))
 (.ite (.eq (.var 31) (.var 4))
 (.call 122 [.var 0,.var 1,.var 2,.var 3,.var 4,.var 27,.var 28,.var 29,.var 30,.var 31] 49
 (.ite (.le (.var 49) (.int 1))
 (.ite (.and (.eq (.var 32) (.int 2)) (.and (.eq (.var 33) (.var 6)) (.and (.eq (.var 34) (.var 7)) (.and (.eq (.var 35) (.var 8)) (.and (.eq (.var 36) (.var 9)) (.and (.eq (.var 37) (.var 10)) (.bool true)))))))
 (.ite (.var 44)
 (.need (.fit (.add (.len (.var 2)) (.int 1)))
 (.ite (.le (.len (.var 29)) (.add (.len (.var 2)) (.int 1)))
 (.need (.fit (.add (.len (.var 29)) (.int 1)))
 (.ret [.le (.len (.var 2)) (.add (.len (.var 29)) (.int 1))]))
 (.ret [.bool false])))
 (.call 43 [.var 27,.var 28,.var 29,.var 30,.var 31,.var 32,.var 33,.var 34,.var 35,.var 36,.var 37,.var 38,.var 39,.var 40,.var 41,.var 42,.var 43,.var 44,.var 45] 50
 (.ite (.eq (.var 50) (.int 0))
 (.need (.fit (.add (.len (.var 2)) (.int 1)))
 (.ite (.le (.len (.var 29)) (.add (.len (.var 2)) (.int 1)))
 (.need (.fit (.add (.len (.var 29)) (.int 1)))
 (.ret [.le (.len (.var 2)) (.add (.len (.var 29)) (.int 1))]))
 (.ret [.bool false])))
 (.ret [.bool false]))))
 (.ret [.bool false]))
 (.ret [.bool false])))
 (.ret [.bool false])))))))))))
theorem run25 : run z25 6000 [.code (Try.f25.body.getD .skip),.fin (bt z25 Try.f25.results.toList 50)] { fn:=25,tmps:=z25.sig.aM ++ List.replicate (Try.f25.ntmps - z25.sig.aM.length) (.v (.one .undef)),stk:=[],h:=z25.sig.h0,nx:=z25.sig.ins.length,known:=[]}=t25:=by kernel_rfl
theorem ok25 : cB Try.prog 25 d25.ct:=by
 refine aD (d:=d25) (Z:=z25) (Γ:=gam l25) (fn:=Try.f25) (c:=Try.f25.body.getD .skip) (bg tok mixed (all_cons ok106 (all_cons ok100 (all_cons ok62 (all_cons ok107 (all_cons ok48 (all_cons ok122 (all_cons ok43 all_nil))))))) bh) Try.func25 (by kernel_rfl) (by kernel_rfl) rfl run25 fun E hk hp=>?_
 obtain ⟨hk0,hk1,hk2,hk3,hk4,hk5,hk6,hk7,hk8,hk9,hk10,hk11,hk12,hk13,hk14,hk15,hk16,hk17,hk18,hk19,_⟩:=hk
 obtain ⟨m,e0,e1,e2,e3,e4,b0,b1,b2,b3⟩:=cv (d0:=E 0) (d1:=E 1) (d2:=E 2) (d3:=E 3) (d4:=E 4) hk0 hk1 hk2 hk3 hk4
 obtain ⟨f,e5,e6,e7,e8,e9,e10,e11,e12,e13,e14,e15,e16,e17,e18,b16⟩:=ja (d0:=E 5) (d1:=E 6) (d2:=E 7) (d3:=E 8) (d4:=E 9) (d5:=E 10) (d6:=E 11) (d7:=E 12) (d8:=E 13) (d9:=E 14) (d10:=E 15) (d11:=E 16) (d12:=E 17) (d13:=E 18) hk5 hk6 hk7 hk8 hk9 hk10 hk11 hk12 hk13 hk14 hk15 hk16 hk17 hk18
 obtain ⟨x,e19⟩:=ok_int (d:=E 19) hk19
 have el : aH E d25.sig.ins.length=[au m.slots,af m.heads,af m.free,af m.locks,.i m.now,.i f.c.kind,.i f.c.k.a,.i f.c.k.b,.i f.c.time,.i f.c.bucket,.i f.c.slot,.i f.pc,.i f.cur,.i f.prev,.i f.slot,.i f.n,bS f.keys,.b f.done,.i f.e,.i x]:=by
  show [E 0,E 1,E 2,E 3,E 4,E 5,E 6,E 7,E 8,E 9,E 10,E 11,E 12,E 13,E 14,E 15,E 16,E 17,E 18,E 19]=_
  rw [e0,e1,e2,e3,e4,e5,e6,e7,e8,e9,e10,e11,e12,e13,e14,e15,e16,e17,e18,e19]
 rw [el] at hp
 rw [el]
 rw [Env.bJ el]
 clear el e0 e1 e2 e3 e4 e5 e6 e7 e8 e9 e10 e11 e12 e13 e14 e15 e16 e17 e18 e19
 simp only [d25]
 unfold t25
 refine ai d106 [.b true] rfl trivial rfl (Fk rfl ?_)
 obtain ⟨F,hF⟩ : ∃ F : Frm,F={ f with c:={ f.c with kind:=2}}:=⟨_,rfl⟩
 have hk : F.c.kind=2:=by first | (rw [hF];done) | (rw [hF];exact .inl rfl) | (rw [hF];exact .inr rfl)
 refine ai d100 [.b (decide (cP m=0∧eO m F=0))] rfl trivial (by simp only [nrm,xdn,reduceIte,Nat.reduceLT,Nat.reduceSub,Nat.reduceAdd];rw [hF];exact fn100 m { f with c:={ f.c with kind:=2}}) (G0 (fun h=>?_) (fun h=>?_))
 ·refine ai d106 [.b true] rfl trivial rfl (aj ?_)
  simp only [nrm,xdn,reduceIte,Nat.reduceLT,Nat.reduceSub,Nat.reduceAdd]
 simp only [nrm,xdn,reduceIte,Nat.reduceLT,Nat.reduceSub,Nat.reduceAdd,Bool.not_eq_false',decide_eq_true_eq] at h
 have hm:=(dT m).1 h.1
 have hns:=hm.ns
 have hnl:=hm.nl
 have hnh:=hm.nh4
 have hnf:=hm.nf
 have hf:=(mD m F).1 h.2
 have hI:=ud x hm.rJ hf hk
 have hT:=gW x hm.rJ hf hk
 refine ai d62 m.cds rfl trivial (by simp only [nrm,xdn,reduceIte,Nat.reduceLT,Nat.reduceSub,Nat.reduceAdd,fn62]) ?_
 refine ai d107 ((G3 m F x).2.cds ++ (G3 m F x).1.cds) rfl (by simp only [nrm,xdn,reduceIte,Nat.reduceLT,Nat.reduceSub,Nat.reduceAdd,Mem.cds];have:=pi107 hm.rJ hf hk x;rw [hF] at this;exact this) (by simp only [nrm,xdn,reduceIte,Nat.reduceLT,Nat.reduceSub,Nat.reduceAdd,Mem.cds];rw [hF];exact fn107 m { f with c:={ f.c with kind:=2}} x) ?_
 have hO : (G3 m F x).1.done=false→eO (G3 m F x).2 (G3 m F x).1=0:=fun hd=>(mD _ _).2 (hI.ok hf hT hd)
 generalize G3 m F x=r at *
 obtain ⟨g,y⟩:=r
 simp only [Mem.cds,Frm.cds,lca] at *
 have hlen:=hT.len
 have hhl:=hT.hl
 have hll:=hT.ll
 have hc:=hI.c
 have hone:=hT.one m.slots.length
 have hfr:=hT.f0
 have hfr1:=hT.f1
 refine ai d48 [.i (aa m F.c)] rfl trivial (by simp only [nrm,xdn,reduceIte,Nat.reduceLT,Nat.reduceSub,Nat.reduceAdd];rw [hF];exact Fa m { f with c:={ f.c with kind:=2}}.c) ?_
 refine bO (fun ds=>∃ j : Nat,ds=[.i j]∧j≤m.heads.length) (fun ds=>m.heads.length - (ds.getD 0 .u).int.toNat) ⟨0,rfl,by omega⟩ ?_
 rintro ds - ⟨j,rfl,hj⟩
 refine G0 (fun hlt=>?_) (fun hge=>?_)
 ·simp only [nrm,xdn,reduceIte,Nat.reduceLT,Nat.reduceSub,Nat.reduceAdd,aw] at hlt
  refine G0 (fun hne=>?_) (fun hne=>?_)
  ·simp only [nrm,xdn,reduceIte,Nat.reduceLT,Nat.reduceSub,Nat.reduceAdd,Bool.not_eq_true'] at hne
   have k1 : y.heads.getD j 0=m.heads.getD j 0:=hT.hd j (by omega)
   have k2 : y.locks.getD j 0=m.locks.getD j 0:=hT.lk j (by omega)
   refine eh (by simp only [nrm,xdn,reduceIte,Nat.reduceLT,Nat.reduceSub,Nat.reduceAdd];omega) (lv (by simp only [nrm,xdn,reduceIte,Nat.reduceLT,Nat.reduceSub,Nat.reduceAdd,aw];omega) (Fk (by simp only [nrm,xdn,reduceIte,Nat.reduceLT,Nat.reduceSub,Nat.reduceAdd,aG,Int.toNat_natCast,k1,beq_self_eq_true,Bool.not_true]) ?_))
   refine lv (by simp only [nrm,xdn,reduceIte,Nat.reduceLT,Nat.reduceSub,Nat.reduceAdd,aw];omega) (lv (by simp only [nrm,xdn,reduceIte,Nat.reduceLT,Nat.reduceSub,Nat.reduceAdd,aw];omega) (Fk (by simp only [nrm,xdn,reduceIte,Nat.reduceLT,Nat.reduceSub,Nat.reduceAdd,aG,Int.toNat_natCast,k2,beq_self_eq_true,Bool.not_true]) ?_))
   refine G1 (by simp only [nrm,xdn,reduceIte,Nat.reduceLT,Nat.reduceSub,Nat.reduceAdd];omega) (aV ⟨⟨j + 1,?_,by omega⟩,?_⟩)
   ·simp only [nrm,xdn,reduceIte,Nat.reduceLT,Nat.reduceSub,Nat.reduceAdd];rfl
   ·simp only [nrm,xdn,reduceIte,Nat.reduceLT,Nat.reduceSub,Nat.reduceAdd];omega
  ·refine G1 (by simp only [nrm,xdn,reduceIte,Nat.reduceLT,Nat.reduceSub,Nat.reduceAdd];omega) (aV ⟨⟨j + 1,?_,by omega⟩,?_⟩)
   ·simp only [nrm,xdn,reduceIte,Nat.reduceLT,Nat.reduceSub,Nat.reduceAdd];rfl
   ·simp only [nrm,xdn,reduceIte,Nat.reduceLT,Nat.reduceSub,Nat.reduceAdd];omega
 clear hge hj
 refine Bf (by simp only [nrm,xdn,reduceIte,Nat.reduceLT,Nat.reduceSub,Nat.reduceAdd];exact hT.now) ?_
 refine ai d122 [.i (chN m y m.slots.length)] rfl (by simp only [nrm,xdn,reduceIte,Nat.reduceLT,Nat.reduceSub,Nat.reduceAdd];exact pre122 (by omega)) (by simp only [nrm,xdn,reduceIte,Nat.reduceLT,Nat.reduceSub,Nat.reduceAdd,fn122]) ?_
 refine Bf (by simp only [nrm,xdn,reduceIte,Nat.reduceLT,Nat.reduceSub,Nat.reduceAdd];omega) ?_
 refine Bf (by simp only [nrm,xdn,reduceIte,Nat.reduceLT,Nat.reduceSub,Nat.reduceAdd,hc,hF];simp) ?_
 refine G0 (fun hd=>?_) (fun hd=>?_)
 ·simp only [nrm,xdn,reduceIte,Nat.reduceLT,Nat.reduceSub,Nat.reduceAdd] at hd
  refine G1 (by simp only [nrm,xdn,reduceIte,Nat.reduceLT,Nat.reduceSub,Nat.reduceAdd,aw];omega) (Bf (by simp only [nrm,xdn,reduceIte,Nat.reduceLT,Nat.reduceSub,Nat.reduceAdd,aw];omega) (G1 (by simp only [nrm,xdn,reduceIte,Nat.reduceLT,Nat.reduceSub,Nat.reduceAdd,aw];omega) (aj ?_)))
  simp only [nrm,xdn,reduceIte,Nat.reduceLT,Nat.reduceSub,Nat.reduceAdd,aw]
  rw [decide_eq_true (by omega)]
 ·simp only [nrm,xdn,reduceIte,Nat.reduceLT,Nat.reduceSub,Nat.reduceAdd] at hd
  refine ai d43 [.i 0] rfl trivial (by simp only [nrm,xdn,reduceIte,Nat.reduceLT,Nat.reduceSub,Nat.reduceAdd,GN,hO hd]) (Bf rfl ?_)
  refine G1 (by simp only [nrm,xdn,reduceIte,Nat.reduceLT,Nat.reduceSub,Nat.reduceAdd,aw];omega) (Bf (by simp only [nrm,xdn,reduceIte,Nat.reduceLT,Nat.reduceSub,Nat.reduceAdd,aw];omega) (G1 (by simp only [nrm,xdn,reduceIte,Nat.reduceLT,Nat.reduceSub,Nat.reduceAdd,aw];omega) (aj ?_)))
  simp only [nrm,xdn,reduceIte,Nat.reduceLT,Nat.reduceSub,Nat.reduceAdd,aw]
  rw [decide_eq_true (by omega)]
end Go.Proofs.Ytpmamacjepcdmaa
