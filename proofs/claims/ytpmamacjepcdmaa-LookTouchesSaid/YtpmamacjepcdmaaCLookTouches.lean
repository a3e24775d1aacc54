import Derived.Test.YtpmamacjepcdmaaCLooked
import Derived.Test.YtpmamacjepcdmaaCChanged
namespace Go.Proofs.Ytpmamacjepcdmaa
open Go Go.Sy Go.RowKit
set_option linter.unusedSimpArgs false
set_option linter.unusedVariables false
def Next (m x : Mem) : Prop:=∀ i : Nat,(msl x i).next=(msl m i).next
theorem Gp {m x : Mem} {i : Nat} {g : bp→bp} (h : x.slots=m.slots.modify i g) (hg : ∀ s,(g s).next=s.next) : Next m x:=fun j=>by
 have e : msl x j=if i=j∧i < m.slots.length then g (msl m j) else msl m j:=by
  show x.slots.getD j default=_
  rw [h];exact getD_modify g m.slots i j
 rw [e]
 split
 ·exact hg _
 ·rfl
theorem Gy (m : Mem) (f : Frm) : Next m (ar m f).2:=by
 have hh : ∀ a,Next m (hold m a).1:=fun a=>by
  unfold hold
  split
  ·exact fun _=>rfl
  ·exact Gp rfl fun _=>rfl
 have hp : ∀ a,Next m (put m a):=fun a=>by
  unfold put
  split
  ·exact fun _=>rfl
  ·split <;> exact Gp rfl fun _=>rfl
 unfold ar
 repeat' split
 all_goals first
  | exact fun _=>rfl
  | exact hh _
  | exact hp _
def s24 : Sig:=⟨[.agg [.fz kS,.fz kI,.fz kI,.fz kI,.int .i64],.agg [.int .i64,.int .i64,.int .i64,.int .i64,.int .i64,.int .i64,.int .i64,.int .i64,.int .i64,.int .i64,.int .i64,.fz kK,.bool,.int .i64]],[.one (.bool)]⟩
def d24 : DC:=⟨s24,fun _=>True,fun _=>[.b true]⟩
def l24 : List (Nat × Ct):=[(99,d99.ct),(100,d100.ct),(62,d62.ct),(101,d101.ct),(39,d39.ct),(122,d122.ct),(51,d51.ct),(43,d43.ct)]
def z24 : Cx:={ T:=ttA,C:=sigs l24,F:=[],hints:=[⟨24,9,false,[(70,.lt)],[],[],[],0,0,false⟩],sig:=s24}
def t24 : Tree :=
 (.call 99 [] 19
 (.ite (.not (.var 19))
 (.call 99 [] 20
 (.ret [.var 20]))
 (.call 100 [.var 0,.var 1,.var 2,.var 3,.var 4,.int 1,.var 6,.var 7,.var 8,.var 9,.var 10,.var 11,.var 12,.var 13,.var 14,.var 15,.var 16,.var 17,.var 18] 20
 (.ite (.not (.var 20))
 (.call 99 [] 21
 (.ret [.var 21]))
 (.call 62 [.var 0,.var 1,.var 2,.var 3,.var 4] 21
 (.call 101 [.var 21,.var 22,.var 23,.var 24,.var 25,.int 1,.var 6,.var 7,.var 8,.var 9,.var 10,.var 11,.var 12,.var 13,.var 14,.var 15,.var 16,.var 17,.var 18] 26
 (.call 39 [.var 27,.var 1] 45
 (.ite (.not (.var 45))
 (.ret [.bool false])
 (.call 39 [.var 29,.var 3] 46
 (.ite (.not (.var 46))
 (.ret [.bool false])
 (.ite (.not (.eq (.var 30) (.var 4)))
 (.ret [.bool false])
 (.ite (.not (.eq (.len (.var 26)) (.len (.var 0))))
 (.ret [.bool false])
 (.call 122 [.var 0,.var 1,.var 2,.var 3,.var 4,.var 26,.var 27,.var 28,.var 29,.var 30] 47
 (.ite (.lt (.int 1) (.var 47))
 (.ret [.bool false])
 (.ite (.not (.and (.eq (.var 31) (.int 1)) (.and (.eq (.var 32) (.var 6)) (.and (.eq (.var 33) (.var 7)) (.and (.eq (.var 34) (.var 8)) (.and (.eq (.var 35) (.var 9)) (.and (.eq (.var 36) (.var 10)) (.bool true))))))))
 (.ret [.bool false])
 (.loop 48 [.int .i64] [.int 0]
 (.ite (.lt (.var 49) (.len (.var 26)))
 (.need (.le (.int 0) (.var 49))
 (.need (.lt (.var 49) (.len (.var 0)))
 (.ite (.not (.and (.eq (.cell (.var 26) (.var 49) 1) (.cell (.var 0) (.var 49) 1)) (.and (.eq (.cell (.var 26) (.var 49) 2) (.cell (.var 0) (.var 49) 2)) (.and (.eq (.cell (.var 26) (.var 49) 3) (.cell (.var 0) (.var 49) 3)) (.and (.beq (.cell (.var 26) (.var 49) 4) (.cell (.var 0) (.var 49) 4)) (.and (.eq (.cell (.var 26) (.var 49) 5) (.cell (.var 0) (.var 49) 5)) (.bool true)))))))
 (.ret [.bool false])
 (.need (.fit (.add (.var 49) (.int 1)))
 (.back 48 [.add (.var 49) (.int 1)])))))
 (.call 51 [.var 26,.var 27,.var 28,.var 29,.var 30] 50
 (.ite (.eq (.var 50) (.int 0))
 (.ite (.var 43)
 (.ret [.bool true])
 (.call 43 [.var 26,.var 27,.var 28,.var 29,.var 30,.var 31,.var 32,.var 33,.var 34,.var 35,.var 36,.var 37,.var 38,.var 39,.var 40,.var 41,.var 42,.var 43,.var 44] 51
 (.ret [.eq (.var 51) (.int 0)])))
 (.ret [.bool false]))))))))))))))))))))
theorem run24 : run z24 6000 [.code (Try.f24.body.getD .skip),.fin (bt z24 Try.f24.results.toList 50)] { fn:=24,tmps:=z24.sig.aM ++ List.replicate (Try.f24.ntmps - z24.sig.aM.length) (.v (.one .undef)),stk:=[],h:=z24.sig.h0,nx:=z24.sig.ins.length,known:=[]}=t24:=by kernel_rfl
theorem ok24 : cB Try.prog 24 d24.ct:=by
 refine aD (d:=d24) (Z:=z24) (Γ:=gam l24) (fn:=Try.f24) (c:=Try.f24.body.getD .skip) (bg tok mixed (all_cons ok99 (all_cons ok100 (all_cons ok62 (all_cons ok101 (all_cons ok39 (all_cons ok122 (all_cons ok51 (all_cons ok43 all_nil)))))))) bh) Try.func24 (by kernel_rfl) (by kernel_rfl) rfl run24 fun E hk hp=>?_
 obtain ⟨hk0,hk1,hk2,hk3,hk4,hk5,hk6,hk7,hk8,hk9,hk10,hk11,hk12,hk13,hk14,hk15,hk16,hk17,hk18,_⟩:=hk
 obtain ⟨m,e0,e1,e2,e3,e4,b0,b1,b2,b3⟩:=cv (d0:=E 0) (d1:=E 1) (d2:=E 2) (d3:=E 3) (d4:=E 4) hk0 hk1 hk2 hk3 hk4
 obtain ⟨f,e5,e6,e7,e8,e9,e10,e11,e12,e13,e14,e15,e16,e17,e18,b16⟩:=ja (d0:=E 5) (d1:=E 6) (d2:=E 7) (d3:=E 8) (d4:=E 9) (d5:=E 10) (d6:=E 11) (d7:=E 12) (d8:=E 13) (d9:=E 14) (d10:=E 15) (d11:=E 16) (d12:=E 17) (d13:=E 18) hk5 hk6 hk7 hk8 hk9 hk10 hk11 hk12 hk13 hk14 hk15 hk16 hk17 hk18
 have el : aH E d24.sig.ins.length=[au m.slots,af m.heads,af m.free,af m.locks,.i m.now,.i f.c.kind,.i f.c.k.a,.i f.c.k.b,.i f.c.time,.i f.c.bucket,.i f.c.slot,.i f.pc,.i f.cur,.i f.prev,.i f.slot,.i f.n,bS f.keys,.b f.done,.i f.e]:=by
  show [E 0,E 1,E 2,E 3,E 4,E 5,E 6,E 7,E 8,E 9,E 10,E 11,E 12,E 13,E 14,E 15,E 16,E 17,E 18]=_
  rw [e0,e1,e2,e3,e4,e5,e6,e7,e8,e9,e10,e11,e12,e13,e14,e15,e16,e17,e18]
 rw [el] at hp
 rw [el]
 rw [Env.bJ el]
 clear el e0 e1 e2 e3 e4 e5 e6 e7 e8 e9 e10 e11 e12 e13 e14 e15 e16 e17 e18
 simp only [d24]
 unfold t24
 refine ai d99 [.b true] rfl trivial rfl (Fk rfl ?_)
 obtain ⟨F,hF⟩ : ∃ F : Frm,F={ f with c:={ f.c with kind:=1}}:=⟨_,rfl⟩
 have hk : F.c.kind=1:=by rw [hF]
 refine ai d100 [.b (decide (cP m=0∧eO m F=0))] rfl trivial (by simp only [nrm,xdn,reduceIte,Nat.reduceLT,Nat.reduceSub,Nat.reduceAdd];rw [hF];exact fn100 m { f with c:={ f.c with kind:=1}}) (G0 (fun h=>?_) (fun h=>?_))
 ·refine ai d99 [.b true] rfl trivial rfl (aj ?_)
  simp only [nrm,xdn,reduceIte,Nat.reduceLT,Nat.reduceSub,Nat.reduceAdd]
 simp only [nrm,xdn,reduceIte,Nat.reduceLT,Nat.reduceSub,Nat.reduceAdd,Bool.not_eq_false',decide_eq_true_eq] at h
 have hm:=(dT m).1 h.1
 have hns:=hm.ns
 have hf:=(mD m F).1 h.2
 have hI:=qV hm.rJ hf hk
 obtain ⟨hT,hK,hH,hL⟩:=mg (m:=m) (f:=F)
 have hM:=GB hm hf
 have hN:=Gy m F
 refine ai d62 m.cds rfl trivial (by simp only [nrm,xdn,reduceIte,Nat.reduceLT,Nat.reduceSub,Nat.reduceAdd,fn62]) ?_
 refine ai d101 ((ar m F).2.cds ++ (ar m F).1.cds) rfl (by simp only [nrm,xdn,reduceIte,Nat.reduceLT,Nat.reduceSub,Nat.reduceAdd,Mem.cds];have:=pi101 hm.rJ hf hk;rw [hF] at this;exact this) (by simp only [nrm,xdn,reduceIte,Nat.reduceLT,Nat.reduceSub,Nat.reduceAdd,Mem.cds];rw [hF];exact fn101 m { f with c:={ f.c with kind:=1}}) ?_
 have hO : (ar m F).1.done=false→eO (ar m F).2 (ar m F).1=0:=fun hd=>(mD _ _).2 (hI.ok hf hT hd)
 generalize ar m F=r at hI hT hK hH hL hM hN hO
 obtain ⟨g,y⟩:=r
 simp only [Mem.cds,Frm.cds,lca] at hI hT hK hH hL hM hN hO ⊢
 have hlen:=hT.len
 have hc:=hI.c
 have hone:=hT.one m.slots.length
 refine ai d39 [.b true] rfl trivial (by simp only [nrm,xdn,reduceIte,Nat.reduceLT,Nat.reduceSub,Nat.reduceAdd,hH];exact GD _) (Fk rfl ?_)
 refine ai d39 [.b true] rfl trivial (by simp only [nrm,xdn,reduceIte,Nat.reduceLT,Nat.reduceSub,Nat.reduceAdd,hL];exact GD _) (Fk rfl ?_)
 refine Fk (by simp only [nrm,xdn,reduceIte,Nat.reduceLT,Nat.reduceSub,Nat.reduceAdd,hT.now,beq_self_eq_true,Bool.not_true]) ?_
 refine Fk (by simp only [nrm,xdn,reduceIte,Nat.reduceLT,Nat.reduceSub,Nat.reduceAdd,aN,hlen,beq_self_eq_true,Bool.not_true]) ?_
 refine ai d122 [.i (chN m y m.slots.length)] rfl (by simp only [nrm,xdn,reduceIte,Nat.reduceLT,Nat.reduceSub,Nat.reduceAdd];exact pre122 (by omega)) (by simp only [nrm,xdn,reduceIte,Nat.reduceLT,Nat.reduceSub,Nat.reduceAdd,fn122]) ?_
 refine Fk (by simp only [nrm,xdn,reduceIte,Nat.reduceLT,Nat.reduceSub,Nat.reduceAdd];omega) ?_
 refine Fk (by simp only [nrm,xdn,reduceIte,Nat.reduceLT,Nat.reduceSub,Nat.reduceAdd,hc,hF];simp) ?_
 refine bO (fun ds=>∃ j : Nat,ds=[.i j]∧j≤m.slots.length) (fun ds=>m.slots.length - (ds.getD 0 .u).int.toNat) ⟨0,rfl,by omega⟩ ?_
 rintro ds - ⟨j,rfl,hj⟩
 refine G0 (fun hlt=>?_) (fun hge=>?_)
 ·simp only [nrm,xdn,reduceIte,Nat.reduceLT,Nat.reduceSub,Nat.reduceAdd,aN] at hlt
  have k1 : (y.slots.getD j default).k=(m.slots.getD j default).k:=(hK j).1
  have k2 : (y.slots.getD j default).till=(m.slots.getD j default).till:=(hK j).2.1
  have k3 : (y.slots.getD j default).inn=(m.slots.getD j default).inn:=(hK j).2.2
  have k4 : (y.slots.getD j default).next=(m.slots.getD j default).next:=hN j
  refine eh (by simp only [nrm,xdn,reduceIte,Nat.reduceLT,Nat.reduceSub,Nat.reduceAdd];omega) (lv (by simp only [nrm,xdn,reduceIte,Nat.reduceLT,Nat.reduceSub,Nat.reduceAdd,aN];omega) (Fk (by simp only [nrm,xdn,reduceIte,Nat.reduceLT,Nat.reduceSub,Nat.reduceAdd,cG,cF,cy,cx,cE,Int.toNat_natCast,k1,k2,k3,k4];simp) (G1 (by simp only [nrm,xdn,reduceIte,Nat.reduceLT,Nat.reduceSub,Nat.reduceAdd];omega) (aV ⟨⟨j + 1,?_,by omega⟩,?_⟩))))
  ·simp only [nrm,xdn,reduceIte,Nat.reduceLT,Nat.reduceSub,Nat.reduceAdd];rfl
  ·simp only [nrm,xdn,reduceIte,Nat.reduceLT,Nat.reduceSub,Nat.reduceAdd];omega
 refine ai d51 [.i 0] rfl trivial (by simp only [nrm,xdn,reduceIte,Nat.reduceLT,Nat.reduceSub,Nat.reduceAdd,fs51,(dT y).2 hM]) (Bf rfl (G0 (fun hd=>aj ?_) (fun hd=>?_)))
 ·simp only [nrm,xdn,reduceIte,Nat.reduceLT,Nat.reduceSub,Nat.reduceAdd]
 ·simp only [nrm,xdn,reduceIte,Nat.reduceLT,Nat.reduceSub,Nat.reduceAdd] at hd
  refine ai d43 [.i 0] rfl trivial (by simp only [nrm,xdn,reduceIte,Nat.reduceLT,Nat.reduceSub,Nat.reduceAdd,GN,hO hd]) (aj ?_)
  simp only [nrm,xdn,reduceIte,Nat.reduceLT,Nat.reduceSub,Nat.reduceAdd];rfl
end Go.Proofs.Ytpmamacjepcdmaa
