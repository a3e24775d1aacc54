import Derived.Test.YtpmamacjepcdmaaCSwept
import Derived.Test.YtpmamacjepcdmaaCChanged
namespace Go.Proofs.Ytpmamacjepcdmaa
open Go Go.Sy Go.RowKit
set_option linter.unusedSimpArgs false
set_option linter.unusedVariables false
def s26 : Sig:=⟨[.agg [.fz kS,.fz kI,.fz kI,.fz kI,.int .i64],.agg [.int .i64,.int .i64,.int .i64,.int .i64,.int .i64,.int .i64,.int .i64,.int .i64,.int .i64,.int .i64,.int .i64,.fz kK,.bool,.int .i64],.one (.int .i64),.one (.bool)],[.one (.bool)]⟩
def d26 : DC:=⟨s26,fun _=>True,fun _=>[.b true]⟩
def l26 : List (Nat × Ct):=[(109,d109.ct),(100,d100.ct),(62,d62.ct),(110,d110.ct),(122,d122.ct),(43,d43.ct)]
def z26 : Cx:={ T:=ttA,C:=sigs l26,F:=[],hints:=[⟨26,10,false,[(41,.lt)],[],[],[],0,0,false⟩,⟨26,16,false,[(79,.lt)],[],[],[],0,0,false⟩],sig:=s26}
def t26 : Tree :=
 (.ite (.var 20)
 (.call 109 [] 21
 (.ite (.not (.var 21))
 (.call 109 [] 22
 (.ret [.var 22]))
 (.call 100 [.var 0,.var 1,.var 2,.var 3,.var 4,.int 5,.var 6,.var 7,.var 8,.var 9,.var 10,.tmod (.var 11) (.int 4),.var 12,.var 13,.var 14,.var 15,.var 16,.var 17,.var 18] 22
 (.ite (.not (.var 22))
 (.call 109 [] 23
 (.ret [.var 23]))
 (.call 62 [.var 0,.var 1,.var 2,.var 3,.var 4] 23
 (.call 110 [.var 23,.var 24,.var 25,.var 26,.var 27,.int 5,.var 6,.var 7,.var 8,.var 9,.var 10,.tmod (.var 11) (.int 4),.var 12,.var 13,.var 14,.var 15,.var 16,.var 17,.var 18,.var 19] 28
 (.loop 47 [.int .i64] [.int 0]
 (.ite (.lt (.var 48) (.len (.var 1)))
 (.ite (.not (.eq (.var 48) (.var 9)))
 (.need (.le (.int 0) (.var 48))
 (.need (.lt (.var 48) (.len (.var 29)))
 (.ite (.not (.eq (.cell (.var 29) (.var 48) 0) (.cell (.var 1) (.var 48) 0)))
 (.ret [.bool false])
 (.need (.lt (.var 48) (.len (.var 31)))
 (.need (.lt (.var 48) (.len (.var 3)))
 (.ite (.not (.eq (.cell (.var 31) (.var 48) 0) (.cell (.var 3) (.var 48) 0)))
 (.ret [.bool false])
 (.need (.fit (.add (.var 48) (.int 1)))
 (.back 47 [.add (.var 48) (.int 1)]))))))))
 (.need (.fit (.add (.var 48) (.int 1)))
 (.back 47 [.add (.var 48) (.int 1)])))
 (.loop 49 [.int .i64] [.int 0]
 (.ite (.lt (.var 50) (.len (.var 28)))
 (.need (.le (.int 0) (.var 50))
 (.need (.lt (.var 50) (.len (.var 0)))
 (.ite (.not (.and (.eq (.cell (.var 28) (.var 50) 1) (.cell (.var 0) (.var 50) 1)) (.and (.eq (.cell (.var 28) (.var 50) 2) (.cell (.var 0) (.var 50) 2)) (.bool true))))
 (.ret [.bool false])
 (.ite (.not (.eq (.cell (.var 28) (.var 50) 3) (.cell (.var 0) (.var 50) 3)))
 (.ret [.bool false])
 (.ite (.not (.beq (.cell (.var 28) (.var 50) 4) (.cell (.var 0) (.var 50) 4)))
 (.ret [.bool false])
 (.need (.fit (.add (.var 50) (.int 1)))
 (.back 49 [.add (.var 50) (.int 1)])))))))
 (.call 122 [.var 0,.var 1,.var 2,.var 3,.var 4,.var 28,.var 29,.var 30,.var 31,.var 32] 51
 (.ite (.eq (.var 32) (.var 4))
 (.ite (.le (.var 51) (.int 1))
 (.ite (.eq (.var 51) (.int 0))
 (.ite (.and (.eq (.var 33) (.int 5)) (.and (.eq (.var 34) (.var 6)) (.and (.eq (.var 35) (.var 7)) (.and (.eq (.var 36) (.var 8)) (.and (.eq (.var 37) (.var 9)) (.and (.eq (.var 38) (.var 10)) (.bool true)))))))
 (.ite (.le (.var 15) (.var 43))
 (.ite (.var 45)
 (.ret [.bool true])
 (.call 43 [.var 28,.var 29,.var 30,.var 31,.var 32,.var 33,.var 34,.var 35,.var 36,.var 37,.var 38,.var 39,.var 40,.var 41,.var 42,.var 43,.var 44,.var 45,.var 46] 52
 (.ret [.eq (.var 52) (.int 0)])))
 (.ret [.bool false]))
 (.ret [.bool false]))
 (.ret [.bool false]))
 (.ret [.bool false]))
 (.ret [.bool false])))))))))))))
 (.call 109 [] 21
 (.ite (.not (.var 21))
 (.call 109 [] 22
 (.ret [.var 22]))
 (.call 100 [.var 0,.var 1,.var 2,.var 3,.var 4,.int 4,.var 6,.var 7,.var 8,.var 9,.var 10,.var 11,.var 12,.var 13,.var 14,.var 15,.var 16,.var 17,.var 18] 22
 (.ite (.not (.var 22))
 (.call 109 [] 23
 (.ret [.var 23]))
 (.call 62 [.var 0,.var 1,.var 2,.var 3,.var 4] 23
 (.call 110 [.var 23,.var 24,.var 25,.var 26,.var 27,.int 4,.var 6,.var 7,.var 8,.var 9,.var 10,.var 11,.var 12,.var 13,.var 14,.var 15,.var 16,.var 17,.var 18,.var 19] 28
 (.loop 47 [.int .i64] [.int 0]
 (.ite (.lt (.var 48) (.len (.var 1)))
 (.ite (.not (.eq (.var 48) (.var 9)))
 (.need (.le (.int 0) (.var 48))
 (.need (.lt (.var 48) (.len (.var 29)))
 (.ite (.not (.eq (.cell (.var 29) (.var 48) 0) (.cell (.var 1) (.var 48) 0)))
 (.ret [.bool false])
 (.need (.lt (.var 48) (.len (.var 31)))
 (.need (.lt (.var 48) (.len (.var 3)))
 (.ite (.not (.eq (.cell (.var 31) (.var 48) 0) (.cell (.var 3) (.var 48) 0)))
 (.ret [.bool false])
 (.need (.fit (.add (.var 48) (.int 1)))
 (.back 47 [.add (.var 48) (.int 1)]))))))))
 (.need (.fit (.add (.var 48) (.int 1)))
 (.back 47 [.add (.var 48) (.int 1)])))
 (.loop 49 [.int .i64] [.int 0]
 (.ite (.lt (.var 50) (.len (.var 28)))
 (.need (.le (.int 0) (.var 50))
 (.need (.lt (.var 50) (.len (.var 0)))
 (.ite (.not (.and (.eq (.cell (.var 28) (.var 50) 1) (.cell (.var 0) (.var 50) 1)) (.and (.eq (.cell (.var 28) (.var 50) 2) (.cell (.var 0) (.var 50) 2)) (.bool true))))
 (.ret [.bool false])
 (.ite (.not (.eq (.cell (.var 28) (.var 50) 3) (.cell (.var 0) (.var 50) 3)))
 (.ret [.bool false])
 (.ite (.not (.beq (.cell (.var 28) (.var 50) 4) (.cell (.var 0) (.var 50) 4)))
 (.ret [.bool false])
 (.need (.fit (.add (.var 50) (.int 1)))
 (.back 49 [.add (.var 50) (.int 1)])))))))
 (.call 122 [.var 0,.var 1,.var 2,.var 3,.var 4,.var 28,.var 29,.var 30,.var 31,.var 32] 51
 (.ite (.eq (.var 32) (.var 4))
 (.ite (.le (.var 51) (.int 1))
 (.ite (.eq (.var 51) (.int 0))
 (.ite (.and (.eq (.var 33) (.int 4)) (.and (.eq (.var 34) (.var 6)) (.and (.eq (.var 35) (.var 7)) (.and (.eq (.var 36) (.var 8)) (.and (.eq (.var 37) (.var 9)) (.and (.eq (.var 38) (.var 10)) (.bool true)))))))
 (.ite (.le (.var 15) (.var 43))
 (.ite (.var 45)
 (.ret [.bool true])
 (.call 43 [.var 28,.var 29,.var 30,.var 31,.var 32,.var 33,.var 34,.var 35,.var 36,.var 37,.var 38,.var 39,.var 40,.var 41,.var 42,.var 43,.var 44,.var 45,.var 46] 52
 (.ret [.eq (.var 52) (.int 0)])))
 (.ret [.bool false]))
 (.ret [.bool false]))
 (.ite (.and (.eq (.var 33) (.int 4)) (.and (.eq (.var 34) (.var 6)) (.and (.eq (.var 35) (.var 7)) (.and (.eq (.var 36) (.var 8)) (.and (.eq (.var 37) (.var 9)) (.and (.eq (.var 38) (.var 10)) (.bool true)))))))
 (.ite (.le (.var 15) (.var 43))
 (.ite (.var 45)
 (.ret [.bool true])
 (.call 43 [.var 28,.var 29,.var 30,.var 31,.var 32,.var 33,.var 34,.var 35,.var 36,.var 37,.var 38,.var 39,.var 40,.var 41,.var 42,.var 43,.var 44,.var 45,.var 46] 52
 (.ret [.eq (.var 52) (.int 0)])))
 (.ret [.bool false]))
 (.ret [.bool false])))
 (.ret [.bool false]))
 (.ret [.bool false]))))))))))))))
theorem run26 : run z26 6000 [.code (Try.f26.body.getD .skip),.fin (bt z26 Try.f26.results.toList 50)] { fn:=26,tmps:=z26.sig.aM ++ List.replicate (Try.f26.ntmps - z26.sig.aM.length) (.v (.one .undef)),stk:=[],h:=z26.sig.h0,nx:=z26.sig.ins.length,known:=[]}=t26:=by kernel_rfl
set_option maxHeartbeats 2000000 in
theorem ok26 : cB Try.prog 26 d26.ct:=by
 refine aD (d:=d26) (Z:=z26) (Γ:=gam l26) (fn:=Try.f26) (c:=Try.f26.body.getD .skip) (bg tok mixed (all_cons ok109 (all_cons ok100 (all_cons ok62 (all_cons ok110 (all_cons ok122 (all_cons ok43 all_nil)))))) bh) Try.func26 (by kernel_rfl) (by kernel_rfl) rfl run26 fun E hk hp=>?_
 obtain ⟨hk0,hk1,hk2,hk3,hk4,hk5,hk6,hk7,hk8,hk9,hk10,hk11,hk12,hk13,hk14,hk15,hk16,hk17,hk18,hk19,hk20,_⟩:=hk
 obtain ⟨m,e0,e1,e2,e3,e4,b0,b1,b2,b3⟩:=cv (d0:=E 0) (d1:=E 1) (d2:=E 2) (d3:=E 3) (d4:=E 4) hk0 hk1 hk2 hk3 hk4
 obtain ⟨f,e5,e6,e7,e8,e9,e10,e11,e12,e13,e14,e15,e16,e17,e18,b16⟩:=ja (d0:=E 5) (d1:=E 6) (d2:=E 7) (d3:=E 8) (d4:=E 9) (d5:=E 10) (d6:=E 11) (d7:=E 12) (d8:=E 13) (d9:=E 14) (d10:=E 15) (d11:=E 16) (d12:=E 17) (d13:=E 18) hk5 hk6 hk7 hk8 hk9 hk10 hk11 hk12 hk13 hk14 hk15 hk16 hk17 hk18
 obtain ⟨x,e19⟩:=ok_int (d:=E 19) hk19
 obtain ⟨b,e20⟩:=vO (d:=E 20) hk20
 have el : aH E d26.sig.ins.length=[au m.slots,af m.heads,af m.free,af m.locks,.i m.now,.i f.c.kind,.i f.c.k.a,.i f.c.k.b,.i f.c.time,.i f.c.bucket,.i f.c.slot,.i f.pc,.i f.cur,.i f.prev,.i f.slot,.i f.n,bS f.keys,.b f.done,.i f.e,.i x,.b b]:=by
  show [E 0,E 1,E 2,E 3,E 4,E 5,E 6,E 7,E 8,E 9,E 10,E 11,E 12,E 13,E 14,E 15,E 16,E 17,E 18,E 19,E 20]=_
  rw [e0,e1,e2,e3,e4,e5,e6,e7,e8,e9,e10,e11,e12,e13,e14,e15,e16,e17,e18,e19,e20]
 rw [el] at hp
 rw [el]
 rw [Env.bJ el]
 clear el e0 e1 e2 e3 e4 e5 e6 e7 e8 e9 e10 e11 e12 e13 e14 e15 e16 e17 e18 e19 e20
 simp only [d26]
 unfold t26
 refine G0 (fun hl=>?_) (fun hl=>?_)
 ·skip
  refine ai d109 [.b true] rfl trivial rfl (Fk rfl ?_)
  obtain ⟨F,hF⟩ : ∃ F : Frm,F={ f with c:={ f.c with kind:=5},pc:=f.pc.tmod 4}:=⟨_,rfl⟩
  have hk : (F.c.kind=4∨F.c.kind=5):=by first | (rw [hF];done) | (rw [hF];exact .inl rfl) | (rw [hF];exact .inr rfl)
  refine ai d100 [.b (decide (cP m=0∧eO m F=0))] rfl trivial (by simp only [nrm,xdn,reduceIte,Nat.reduceLT,Nat.reduceSub,Nat.reduceAdd];rw [hF];exact fn100 m { f with c:={ f.c with kind:=5},pc:=f.pc.tmod 4}) (G0 (fun h=>?_) (fun h=>?_))
  ·refine ai d109 [.b true] rfl trivial rfl (aj ?_)
   simp only [nrm,xdn,reduceIte,Nat.reduceLT,Nat.reduceSub,Nat.reduceAdd]
  simp only [nrm,xdn,reduceIte,Nat.reduceLT,Nat.reduceSub,Nat.reduceAdd,Bool.not_eq_false',decide_eq_true_eq] at h
  have hm:=(dT m).1 h.1
  have hns:=hm.ns
  have hnl:=hm.nl
  have hnh:=hm.nh4
  have hnf:=hm.nf
  have hf:=(mD m F).1 h.2
  have hI:=oT x hm.rJ hf hk
  have hT:=fF x hm.rJ hf hk
  have hK:=IM (m:=m) (f:=F) x
  refine ai d62 m.cds rfl trivial (by simp only [nrm,xdn,reduceIte,Nat.reduceLT,Nat.reduceSub,Nat.reduceAdd,fn62]) ?_
  refine ai d110 ((aB m F x).2.cds ++ (aB m F x).1.cds) rfl (by simp only [nrm,xdn,reduceIte,Nat.reduceLT,Nat.reduceSub,Nat.reduceAdd,Mem.cds];have:=pi110 hm.rJ hf hk x;rw [hF] at this;exact this) (by simp only [nrm,xdn,reduceIte,Nat.reduceLT,Nat.reduceSub,Nat.reduceAdd,Mem.cds];rw [hF];exact fn110 m { f with c:={ f.c with kind:=5},pc:=f.pc.tmod 4} x) ?_
  have hO : (aB m F x).1.done=false→eO (aB m F x).2 (aB m F x).1=0:=fun hd=>(mD _ _).2 (hI.ok hf hT hd)
  have hbk : aa m F.c=f.c.bucket:=by unfold aa;rw [if_pos hk,hF]
  rw [hbk] at hT
  have hn : f.n≤(aB m F x).1.n:=by have:=hI.n.1;rw [hF] at this ⊢;exact this
  have hz : chN m (aB m F x).2 m.slots.length=0:=by
   have hpc : 0≤F.pc∧F.pc≤3:=by
    have:=hf.pc0
    have e : F.pc=f.pc.tmod 4:=by rw [hF]
    have h4 : f.pc.tmod 4 < 4:=Int.tmod_lt_of_pos _ (by decide)
    omega
   have hk5 : F.c.kind=5:=by rw [hF]
   have hs : (aB m F x).2.slots=m.slots:=by
    have hl : ∀ b t,(lock m b t).1.slots=m.slots:=fun b t=>by unfold lock;split <;> rfl
    unfold aB
    repeat' split
    all_goals first
     | rfl
     | exact hl _ _
     | (exfalso;omega)
   exact Gw fun j _=>by show m.slots.getD j default=(aB m F x).2.slots.getD j default;rw [hs]
  generalize aB m F x=r at *
  obtain ⟨g,y⟩:=r
  simp only [Mem.cds,Frm.cds,lca] at *
  have hlen:=hT.len
  have hhl:=hT.hl
  have hll:=hT.ll
  have hc:=hI.c
  have hone:=hT.one m.slots.length
  refine bO (fun ds=>∃ j : Nat,ds=[.i j]∧j≤m.heads.length) (fun ds=>m.heads.length - (ds.getD 0 .u).int.toNat) ⟨0,rfl,by omega⟩ ?_
  rintro ds - ⟨j,rfl,hj⟩
  refine G0 (fun hlt=>?_) (fun hge=>?_)
  ·simp only [nrm,xdn,reduceIte,Nat.reduceLT,Nat.reduceSub,Nat.reduceAdd,aw] at hlt
   refine G0 (fun hne=>?_) (fun hne=>?_)
   ·simp only [nrm,xdn,reduceIte,Nat.reduceLT,Nat.reduceSub,Nat.reduceAdd,Bool.not_eq_true'] at hne
    have k1 : y.heads.getD j 0=m.heads.getD j 0:=hT.hd j (by omega)
    have k2 : y.locks.getD j 0=m.locks.getD j 0:=hT.lk j (by omega)
    refine eh (by simp only [nrm,xdn,reduceIte,Nat.reduceLT,Nat.reduceSub,Nat.reduceAdd];omega) (lv (by simp only [nrm,xdn,reduceIte,Nat.reduceLT,Nat.reduceSub,Nat.reduceAdd,aw];omega) (Fk (by simp only [nrm,xdn,reduceIte,Nat.reduceLT,Nat.reduceSub,Nat.reduceAdd,aG,Int.toNat_natCast,k1,beq_self_eq_true,Bool.not_true]) ?_))
    refine lv (by simp only [nrm,xdn,reduceIte,Nat.reduceLT,Nat.reduceSub,Nat.reduceAdd,aw];omega) (lv (by simp only [nrm,xdn,reduceIte,Nat.reduceLT,Nat.reduceSub,Nat.reduceAdd,aw];omega) (Fk (by simp only [nrm,xdn,reduceIte,Nat.reduceLT,Nat.reduceSub,Nat.reduceAdd,aG,Int.toNat_natCast,k2,beq_self_eq_true,Bool.not_true]) ?_))
    refine G1 (by simp only [nrm,xdn,reduceIte,Nat.reduceLT,Nat.reduceSub,Nat.reduceAdd];omega) (aV ⟨⟨j + 1,?_,by omega⟩,?_⟩)
    ·simp only [nrm,xdn,reduceIte,Nat.reduceLT,Nat.reduceSub,Nat.reduceAdd];rfl
    ·simp only [nrm,xdn,reduceIte,Nat.reduceLT,Nat.reduceSub,Nat.reduceAdd];omega
   ·refine G1 (by simp only [nrm,xdn,reduceIte,Nat.reduceLT,Nat.reduceSub,Nat.reduceAdd];omega) (aV ⟨⟨j + 1,?_,by omega⟩,?_⟩)
    ·simp only [nrm,xdn,reduceIte,Nat.reduceLT,Nat.reduceSub,Nat.reduceAdd];rfl
    ·simp only [nrm,xdn,reduceIte,Nat.reduceLT,Nat.reduceSub,Nat.reduceAdd];omega
  clear hge hj
  refine bO (fun ds=>∃ j : Nat,ds=[.i j]∧j≤m.slots.length) (fun ds=>m.slots.length - (ds.getD 0 .u).int.toNat) ⟨0,rfl,by omega⟩ ?_
  rintro ds - ⟨j,rfl,hj⟩
  refine G0 (fun hlt=>?_) (fun hge=>?_)
  ·simp only [nrm,xdn,reduceIte,Nat.reduceLT,Nat.reduceSub,Nat.reduceAdd,aN] at hlt
   have k1 : (y.slots.getD j default).k=(m.slots.getD j default).k:=(hK j).1
   have k2 : (y.slots.getD j default).till=(m.slots.getD j default).till:=(hK j).2.1
   have k3 : (y.slots.getD j default).inn=(m.slots.getD j default).inn:=(hK j).2.2
   refine eh (by simp only [nrm,xdn,reduceIte,Nat.reduceLT,Nat.reduceSub,Nat.reduceAdd];omega) (lv (by simp only [nrm,xdn,reduceIte,Nat.reduceLT,Nat.reduceSub,Nat.reduceAdd,aN];omega) (Fk (by simp only [nrm,xdn,reduceIte,Nat.reduceLT,Nat.reduceSub,Nat.reduceAdd,cG,cF,Int.toNat_natCast,k1];simp) (Fk (by simp only [nrm,xdn,reduceIte,Nat.reduceLT,Nat.reduceSub,Nat.reduceAdd,cy,Int.toNat_natCast,k2];simp) (Fk (by simp only [nrm,xdn,reduceIte,Nat.reduceLT,Nat.reduceSub,Nat.reduceAdd,cx,Int.toNat_natCast,k3];simp) (G1 (by simp only [nrm,xdn,reduceIte,Nat.reduceLT,Nat.reduceSub,Nat.reduceAdd];omega) (aV ⟨⟨j + 1,?_,by omega⟩,?_⟩))))))
   ·simp only [nrm,xdn,reduceIte,Nat.reduceLT,Nat.reduceSub,Nat.reduceAdd];rfl
   ·simp only [nrm,xdn,reduceIte,Nat.reduceLT,Nat.reduceSub,Nat.reduceAdd];omega
  clear hge hj
  refine ai d122 [.i (chN m y m.slots.length)] rfl (by simp only [nrm,xdn,reduceIte,Nat.reduceLT,Nat.reduceSub,Nat.reduceAdd];exact pre122 (by omega)) (by simp only [nrm,xdn,reduceIte,Nat.reduceLT,Nat.reduceSub,Nat.reduceAdd,fn122]) ?_
  refine Bf (by simp only [nrm,xdn,reduceIte,Nat.reduceLT,Nat.reduceSub,Nat.reduceAdd];exact hT.now) ?_
  refine Bf (by simp only [nrm,xdn,reduceIte,Nat.reduceLT,Nat.reduceSub,Nat.reduceAdd];omega) ?_
  refine Bf (by simp only [nrm,xdn,reduceIte,Nat.reduceLT,Nat.reduceSub,Nat.reduceAdd];omega) ?_
  refine Bf (by simp only [nrm,xdn,reduceIte,Nat.reduceLT,Nat.reduceSub,Nat.reduceAdd,hc,hF];simp) ?_
  refine Bf (by simp only [nrm,xdn,reduceIte,Nat.reduceLT,Nat.reduceSub,Nat.reduceAdd];exact hn) ?_
  refine G0 (fun hd=>aj ?_) (fun hd=>?_)
  ·simp only [nrm,xdn,reduceIte,Nat.reduceLT,Nat.reduceSub,Nat.reduceAdd]
  ·simp only [nrm,xdn,reduceIte,Nat.reduceLT,Nat.reduceSub,Nat.reduceAdd] at hd
   refine ai d43 [.i 0] rfl trivial (by simp only [nrm,xdn,reduceIte,Nat.reduceLT,Nat.reduceSub,Nat.reduceAdd,GN,hO hd]) (aj ?_)
   simp only [nrm,xdn,reduceIte,Nat.reduceLT,Nat.reduceSub,Nat.reduceAdd];rfl
 ·skip
  refine ai d109 [.b true] rfl trivial rfl (Fk rfl ?_)
  obtain ⟨F,hF⟩ : ∃ F : Frm,F={ f with c:={ f.c with kind:=4}}:=⟨_,rfl⟩
  have hk : (F.c.kind=4∨F.c.kind=5):=by first | (rw [hF];done) | (rw [hF];exact .inl rfl) | (rw [hF];exact .inr rfl)
  refine ai d100 [.b (decide (cP m=0∧eO m F=0))] rfl trivial (by simp only [nrm,xdn,reduceIte,Nat.reduceLT,Nat.reduceSub,Nat.reduceAdd];rw [hF];exact fn100 m { f with c:={ f.c with kind:=4}}) (G0 (fun h=>?_) (fun h=>?_))
  ·refine ai d109 [.b true] rfl trivial rfl (aj ?_)
   simp only [nrm,xdn,reduceIte,Nat.reduceLT,Nat.reduceSub,Nat.reduceAdd]
  simp only [nrm,xdn,reduceIte,Nat.reduceLT,Nat.reduceSub,Nat.reduceAdd,Bool.not_eq_false',decide_eq_true_eq] at h
  have hm:=(dT m).1 h.1
  have hns:=hm.ns
  have hnl:=hm.nl
  have hnh:=hm.nh4
  have hnf:=hm.nf
  have hf:=(mD m F).1 h.2
  have hI:=oT x hm.rJ hf hk
  have hT:=fF x hm.rJ hf hk
  have hK:=IM (m:=m) (f:=F) x
  refine ai d62 m.cds rfl trivial (by simp only [nrm,xdn,reduceIte,Nat.reduceLT,Nat.reduceSub,Nat.reduceAdd,fn62]) ?_
  refine ai d110 ((aB m F x).2.cds ++ (aB m F x).1.cds) rfl (by simp only [nrm,xdn,reduceIte,Nat.reduceLT,Nat.reduceSub,Nat.reduceAdd,Mem.cds];have:=pi110 hm.rJ hf hk x;rw [hF] at this;exact this) (by simp only [nrm,xdn,reduceIte,Nat.reduceLT,Nat.reduceSub,Nat.reduceAdd,Mem.cds];rw [hF];exact fn110 m { f with c:={ f.c with kind:=4}} x) ?_
  have hO : (aB m F x).1.done=false→eO (aB m F x).2 (aB m F x).1=0:=fun hd=>(mD _ _).2 (hI.ok hf hT hd)
  have hbk : aa m F.c=f.c.bucket:=by unfold aa;rw [if_pos hk,hF]
  rw [hbk] at hT
  have hn : f.n≤(aB m F x).1.n:=by have:=hI.n.1;rw [hF] at this ⊢;exact this
  generalize aB m F x=r at *
  obtain ⟨g,y⟩:=r
  simp only [Mem.cds,Frm.cds,lca] at *
  have hlen:=hT.len
  have hhl:=hT.hl
  have hll:=hT.ll
  have hc:=hI.c
  have hone:=hT.one m.slots.length
  refine bO (fun ds=>∃ j : Nat,ds=[.i j]∧j≤m.heads.length) (fun ds=>m.heads.length - (ds.getD 0 .u).int.toNat) ⟨0,rfl,by omega⟩ ?_
  rintro ds - ⟨j,rfl,hj⟩
  refine G0 (fun hlt=>?_) (fun hge=>?_)
  ·simp only [nrm,xdn,reduceIte,Nat.reduceLT,Nat.reduceSub,Nat.reduceAdd,aw] at hlt
   refine G0 (fun hne=>?_) (fun hne=>?_)
   ·simp only [nrm,xdn,reduceIte,Nat.reduceLT,Nat.reduceSub,Nat.reduceAdd,Bool.not_eq_true'] at hne
    have k1 : y.heads.getD j 0=m.heads.getD j 0:=hT.hd j (by omega)
    have k2 : y.locks.getD j 0=m.locks.getD j 0:=hT.lk j (by omega)
    refine eh (by simp only [nrm,xdn,reduceIte,Nat.reduceLT,Nat.reduceSub,Nat.reduceAdd];omega) (lv (by simp only [nrm,xdn,reduceIte,Nat.reduceLT,Nat.reduceSub,Nat.reduceAdd,aw];omega) (Fk (by simp only [nrm,xdn,reduceIte,Nat.reduceLT,Nat.reduceSub,Nat.reduceAdd,aG,Int.toNat_natCast,k1,beq_self_eq_true,Bool.not_true]) ?_))
    refine lv (by simp only [nrm,xdn,reduceIte,Nat.reduceLT,Nat.reduceSub,Nat.reduceAdd,aw];omega) (lv (by simp only [nrm,xdn,reduceIte,Nat.reduceLT,Nat.reduceSub,Nat.reduceAdd,aw];omega) (Fk (by simp only [nrm,xdn,reduceIte,Nat.reduceLT,Nat.reduceSub,Nat.reduceAdd,aG,Int.toNat_natCast,k2,beq_self_eq_true,Bool.not_true]) ?_))
    refine G1 (by simp only [nrm,xdn,reduceIte,Nat.reduceLT,Nat.reduceSub,Nat.reduceAdd];omega) (aV ⟨⟨j + 1,?_,by omega⟩,?_⟩)
    ·simp only [nrm,xdn,reduceIte,Nat.reduceLT,Nat.reduceSub,Nat.reduceAdd];rfl
    ·simp only [nrm,xdn,reduceIte,Nat.reduceLT,Nat.reduceSub,Nat.reduceAdd];omega
   ·refine G1 (by simp only [nrm,xdn,reduceIte,Nat.reduceLT,Nat.reduceSub,Nat.reduceAdd];omega) (aV ⟨⟨j + 1,?_,by omega⟩,?_⟩)
    ·simp only [nrm,xdn,reduceIte,Nat.reduceLT,Nat.reduceSub,Nat.reduceAdd];rfl
    ·simp only [nrm,xdn,reduceIte,Nat.reduceLT,Nat.reduceSub,Nat.reduceAdd];omega
  clear hge hj
  refine bO (fun ds=>∃ j : Nat,ds=[.i j]∧j≤m.slots.length) (fun ds=>m.slots.length - (ds.getD 0 .u).int.toNat) ⟨0,rfl,by omega⟩ ?_
  rintro ds - ⟨j,rfl,hj⟩
  refine G0 (fun hlt=>?_) (fun hge=>?_)
  ·simp only [nrm,xdn,reduceIte,Nat.reduceLT,Nat.reduceSub,Nat.reduceAdd,aN] at hlt
   have k1 : (y.slots.getD j default).k=(m.slots.getD j default).k:=(hK j).1
   have k2 : (y.slots.getD j default).till=(m.slots.getD j default).till:=(hK j).2.1
   have k3 : (y.slots.getD j default).inn=(m.slots.getD j default).inn:=(hK j).2.2
   refine eh (by simp only [nrm,xdn,reduceIte,Nat.reduceLT,Nat.reduceSub,Nat.reduceAdd];omega) (lv (by simp only [nrm,xdn,reduceIte,Nat.reduceLT,Nat.reduceSub,Nat.reduceAdd,aN];omega) (Fk (by simp only [nrm,xdn,reduceIte,Nat.reduceLT,Nat.reduceSub,Nat.reduceAdd,cG,cF,Int.toNat_natCast,k1];simp) (Fk (by simp only [nrm,xdn,reduceIte,Nat.reduceLT,Nat.reduceSub,Nat.reduceAdd,cy,Int.toNat_natCast,k2];simp) (Fk (by simp only [nrm,xdn,reduceIte,Nat.reduceLT,Nat.reduceSub,Nat.reduceAdd,cx,Int.toNat_natCast,k3];simp) (G1 (by simp only [nrm,xdn,reduceIte,Nat.reduceLT,Nat.reduceSub,Nat.reduceAdd];omega) (aV ⟨⟨j + 1,?_,by omega⟩,?_⟩))))))
   ·simp only [nrm,xdn,reduceIte,Nat.reduceLT,Nat.reduceSub,Nat.reduceAdd];rfl
   ·simp only [nrm,xdn,reduceIte,Nat.reduceLT,Nat.reduceSub,Nat.reduceAdd];omega
  clear hge hj
  refine ai d122 [.i (chN m y m.slots.length)] rfl (by simp only [nrm,xdn,reduceIte,Nat.reduceLT,Nat.reduceSub,Nat.reduceAdd];exact pre122 (by omega)) (by simp only [nrm,xdn,reduceIte,Nat.reduceLT,Nat.reduceSub,Nat.reduceAdd,fn122]) ?_
  refine Bf (by simp only [nrm,xdn,reduceIte,Nat.reduceLT,Nat.reduceSub,Nat.reduceAdd];exact hT.now) ?_
  refine Bf (by simp only [nrm,xdn,reduceIte,Nat.reduceLT,Nat.reduceSub,Nat.reduceAdd];omega) ?_
  refine G0 (fun hz=>?_) (fun hz=>?_)
  ·skip
   refine Bf (by simp only [nrm,xdn,reduceIte,Nat.reduceLT,Nat.reduceSub,Nat.reduceAdd,hc,hF];simp) ?_
   refine Bf (by simp only [nrm,xdn,reduceIte,Nat.reduceLT,Nat.reduceSub,Nat.reduceAdd];exact hn) ?_
   refine G0 (fun hd=>aj ?_) (fun hd=>?_)
   ·simp only [nrm,xdn,reduceIte,Nat.reduceLT,Nat.reduceSub,Nat.reduceAdd]
   ·simp only [nrm,xdn,reduceIte,Nat.reduceLT,Nat.reduceSub,Nat.reduceAdd] at hd
    refine ai d43 [.i 0] rfl trivial (by simp only [nrm,xdn,reduceIte,Nat.reduceLT,Nat.reduceSub,Nat.reduceAdd,GN,hO hd]) (aj ?_)
    simp only [nrm,xdn,reduceIte,Nat.reduceLT,Nat.reduceSub,Nat.reduceAdd];rfl
  ·skip
   refine Bf (by simp only [nrm,xdn,reduceIte,Nat.reduceLT,Nat.reduceSub,Nat.reduceAdd,hc,hF];simp) ?_
   refine Bf (by simp only [nrm,xdn,reduceIte,Nat.reduceLT,Nat.reduceSub,Nat.reduceAdd];exact hn) ?_
   refine G0 (fun hd=>aj ?_) (fun hd=>?_)
   ·simp only [nrm,xdn,reduceIte,Nat.reduceLT,Nat.reduceSub,Nat.reduceAdd]
   ·simp only [nrm,xdn,reduceIte,Nat.reduceLT,Nat.reduceSub,Nat.reduceAdd] at hd
    refine ai d43 [.i 0] rfl trivial (by simp only [nrm,xdn,reduceIte,Nat.reduceLT,Nat.reduceSub,Nat.reduceAdd,GN,hO hd]) (aj ?_)
    simp only [nrm,xdn,reduceIte,Nat.reduceLT,Nat.reduceSub,Nat.reduceAdd];rfl
end Go.Proofs.Ytpmamacjepcdmaa
