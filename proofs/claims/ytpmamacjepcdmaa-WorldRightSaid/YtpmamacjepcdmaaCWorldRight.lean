import Derived.Test.YtpmamacjepcdmaaCEff
namespace Go.Proofs.Ytpmamacjepcdmaa
open Go Go.Sy Go.RowKit
set_option linter.unusedSimpArgs false
set_option linter.unusedVariables false
theorem JN {Γ : Gam} {R : List CD→Prop} {E : Env} {J : JJ} {id a b c : Nat} {cur : List X} {Y Ya Yb Yc : List CD→Prop} (h1 : id≠a) (h2 : id≠b) (h3 : id≠c) (h : Y (cur.map (X.den E))) : (Tree.back id cur).den Γ R E ((((J.put id Y).put a Ya).put b Yb).put c Yc):=by
 show ((((J.put id Y).put a Ya).put b Yb).put c Yc).b id _
 simp only [JJ.put,if_neg h1,if_neg h2,if_neg h3,if_true]
 exact h
def IF (b : List cI) (a : List cI) : Nat:=(a.filter fun x=>decide (x ∉ b)).length
theorem KD {a b : List cI} {j : Nat} (h : j < a.length) : IF b (a.take (j + 1))=IF b (a.take j) + if a.getD j default∈b then 0 else 1:=by
 have e : a.take (j + 1)=a.take j ++ [a.getD j default]:=by
  rw [List.take_succ_eq_append_getElem h,List.getD_eq_getElem?_getD,List.getElem?_eq_getElem h];rfl
 unfold IF
 rw [e,List.filter_append,List.length_append]
 generalize a.getD j default=z
 by_cases hz : z∈b
 ·rw [if_pos hz];simp [hz]
 ·rw [if_neg hz];simp [hz]
theorem Jp {a b : List cI} (h : ∀ x∈a,x∈b) : IF b a=0:=by
 unfold IF
 rw [List.length_eq_zero_iff,List.filter_eq_nil_iff]
 intro x hx
 simp [h x hx]
theorem Ke (b p s : List cI) : IF b (p ++ s)=IF b p + IF b s:=by
 unfold IF
 rw [List.filter_append,List.length_append]
theorem L6 {f : cI} {l l' : List cI} (h : Ins f l l') : IF l' l=0∧IF l l'≤1:=by
 obtain ⟨p,s,rfl,rfl⟩:=h
 refine ⟨Jp fun x hx=>?_,?_⟩
 ·rcases List.mem_append.1 hx with h | h
  ·exact List.mem_append_left _ h
  ·exact List.mem_append_right _ (List.mem_cons_of_mem _ h)
 ·rw [show p ++ f :: s=p ++ ([f] ++ s) from rfl,Ke,Ke,Jp (a:=p) fun x hx=>List.mem_append_left _ hx,Jp (a:=s) fun x hx=>List.mem_append_right _ hx]
  have : IF (p ++ s) [f]≤1:=by
   unfold IF
   exact List.length_filter_le _ _
  omega
theorem No {m y : Mem} (h : Eff m y) : IF (aq y) (aq m) + IF (aq m) (aq y)≤1:=by
 rcases h.fl with e | ⟨f,hi⟩ | ⟨f,hi⟩
 ·rw [e,Jp fun x hx=>hx];omega
 ·have:=L6 hi;omega
 ·have:=L6 hi;omega
theorem KE {a b : List cI} {j : Nat} : IF b (a.take j)≤IF b a:=by
 have:=Ke b (a.take j) (a.drop j)
 rw [List.take_append_drop] at this
 omega
theorem fn93 (L : List cI) (f : cI) : d93.fn [eM L,.i f.k.a,.i f.k.b,.i f.slot,.i f.till]=[.b (decide (f∈L))]:=by simp only [d93,List.getD_cons_zero,List.getD_cons_succ,G6,CD.aR]
def s28 : Sig:=⟨[.one (.int .i64),.one (.int .i64),.one (.int .i64),.one (.fz kQ)],[.one (.bool)]⟩
def d28 : DC:=⟨s28,fun _=>True,fun _=>[.b true]⟩
def l28 : List (Nat × Ct):=[(79,d79.ct),(78,d78.ct),(140,d140.ct),(134,d134.ct),(74,d74.ct),(93,d93.ct)]
noncomputable def z28 : Cx:={ T:=ttA,C:=sigs l28,F:=[(132,Try.f132),(133,Try.f133)],hints:=[⟨132,5,false,[(32,.lt)],[(0,0,.fz kS),(0,1,.fz kI),(0,2,.fz kI),(0,3,.fz kI),(0,4,.lt),(0,5,.fz kT)],[],[],0,0,false⟩,⟨133,7,false,[(42,.lt),(9,.lt)],[],[],[],0,0,false⟩,⟨133,13,false,[(55,.lt),(10,.lt)],[],[],[],0,0,false⟩,⟨133,21,false,[(74,.lt)],[],[],[],0,0,false⟩],sig:=s28}
def t28 : Tree :=
 (.call 79 [] 4
 (.ite (.var 4)
 (.call 78 [.var 0,.var 1,.var 2] 5
 (.ite (.not (.eq (.var 11) (.int 0)))
 (.ret [.bool true])
 (.need (.le (.int 0) (.min (.len (.var 3)) (.int 300)))
 (.need (.le (.min (.len (.var 3)) (.int 300)) (.len (.var 3)))
 (.need (.clean (.var 10) 15)
 (.loop 12 [.int .i64,.sl 48 [.int .i64,.int .i64,.int .i64,.int .i64,.bool,.int .i64],.sl 8 [.int .i64],.sl 8 [.int .i64],.sl 8 [.int .i64],.int .i64,.sl 160 [.bool,.int .i64,.int .i64,.int .i64,.int .i64,.int .i64,.int .i64,.int .i64,.int .i64,.int .i64,.int .i64,.int .i64,.sl 16 [.int .i64,.int .i64],.bool,.int .i64,.sl 8 [.int .i64]]] [.int 0,.var 5,.var 6,.var 7,.var 8,.var 9,.shuts (.var 10) 15]
 (.ite (.lt (.var 13) (.len (.take (.min (.len (.var 3)) (.int 300)) (.var 3))))
 (.need (.le (.int 0) (.var 13))
 (.call 140 [.var 14,.var 15,.var 16,.var 17,.var 18,.var 19,.cell (.take (.min (.len (.var 3)) (.int 300)) (.var 3)) (.var 13) 0,.cell (.take (.min (.len (.var 3)) (.int 300)) (.var 3)) (.var 13) 1,.cell (.take (.min (.len (.var 3)) (.int 300)) (.var 3)) (.var 13) 2,.cell (.take (.min (.len (.var 3)) (.int 300)) (.var 3)) (.var 13) 3,.cell (.take (.min (.len (.var 3)) (.int 300)) (.var 3)) (.var 13) 4,.cell (.take (.min (.len (.var 3)) (.int 300)) (.var 3)) (.var 13) 5,.cell (.take (.min (.len (.var 3)) (.int 300)) (.var 3)) (.var 13) 6,.cell (.take (.min (.len (.var 3)) (.int 300)) (.var 3)) (.var 13) 7,.cell (.take (.min (.len (.var 3)) (.int 300)) (.var 3)) (.var 13) 8] 20
 (.ite (.eq (.var 26) (.int 0))
 (.call 134 [.var 14,.var 15,.var 16,.var 17,.var 18,.var 19] 27
 (.need (.clean (.var 25) 15)
 (.call 134 [.var 20,.var 21,.var 22,.var 23,.var 24,.shuts (.var 25) 15] 29
 (.ite (.not (.eq (.var 28) (.int 0)))
 (.ret [.bool false])
 (.ite (.not (.eq (.var 30) (.int 0)))
 (.ret [.bool false])
 (.call 74 [.var 20,.var 21,.var 22,.var 23,.var 24] 31
 (.ite (.not (.eq (.var 31) (.int 0)))
 (.ret [.bool false])
 (.loop 32 [.int .i64,.int .i64] [.int 0,.int 0]
 (.ite (.lt (.var 34) (.len (.var 27)))
 (.need (.le (.int 0) (.var 34))
 (.call 93 [.var 29,.cell (.var 27) (.var 34) 0,.cell (.var 27) (.var 34) 1,.cell (.var 27) (.var 34) 2,.cell (.var 27) (.var 34) 3] 35
 (.ite (.not (.var 35))
 (.need (.fit (.add (.var 33) (.int 1)))
 (.need (.fit (.add (.var 34) (.int 1)))
 (.back 32 [.add (.var 33) (.int 1),.add (.var 34) (.int 1)])))
 (.need (.fit (.add (.var 34) (.int 1)))
 (.back 32 [.var 33,.add (.var 34) (.int 1)])))))
 (.loop 35 [.int .i64,.int .i64] [.int 0,.int 0]
 (.ite (.lt (.var 37) (.len (.var 29)))
 (.need (.le (.int 0) (.var 37))
 (.call 93 [.var 27,.cell (.var 29) (.var 37) 0,.cell (.var 29) (.var 37) 1,.cell (.var 29) (.var 37) 2,.cell (.var 29) (.var 37) 3] 38
 (.ite (.not (.var 38))
 (.need (.fit (.add (.var 36) (.int 1)))
 (.need (.fit (.add (.var 37) (.int 1)))
 (.back 35 [.add (.var 36) (.int 1),.add (.var 37) (.int 1)])))
 (.need (.fit (.add (.var 37) (.int 1)))
 (.back 35 [.var 36,.add (.var 37) (.int 1)])))))
 (.need (.fit (.add (.var 33) (.var 36)))
 (.ite (.lt (.int 1) (.add (.var 33) (.var 36)))
 (.ret [.bool false])
 (.loop 38 [.int .i64] [.int 0]
 (.ite (.lt (.var 39) (.len (.var 14)))
 (.need (.le (.int 0) (.var 39))
 (.need (.lt (.var 39) (.len (.var 20)))
 (.ite (.lt (.int 0) (.cell (.var 14) (.var 39) 0))
 (.ite (.lt (.int 0) (.cell (.var 20) (.var 39) 0))
 (.ite (.not (.and (.eq (.cell (.var 20) (.var 39) 1) (.cell (.var 14) (.var 39) 1)) (.and (.eq (.cell (.var 20) (.var 39) 2) (.cell (.var 14) (.var 39) 2)) (.bool true))))
 (.ret [.bool false])
 (.ite (.not (.eq (.cell (.var 20) (.var 39) 3) (.cell (.var 14) (.var 39) 3)))
 (.ret [.bool false])
 (.need (.fit (.add (.cell (.var 14) (.var 39) 0) (.int 1)))
 (.ite (.lt (.add (.cell (.var 14) (.var 39) 0) (.int 1)) (.cell (.var 20) (.var 39) 0))
 (.ret [.bool false])
 (.need (.fit (.sub (.cell (.var 14) (.var 39) 0) (.int 1)))
 (.ite (.lt (.cell (.var 20) (.var 39) 0) (.sub (.cell (.var 14) (.var 39) 0) (.int 1)))
 (.ret [.bool false])
 (.need (.fit (.add (.var 39) (.int 1)))
 (.back 38 [.add (.var 39) (.int 1)]))))))))
 (.need (.fit (.add (.var 39) (.int 1)))
 (.back 38 [.add (.var 39) (.int 1)])))
 (.need (.fit (.add (.var 39) (.int 1)))
 (.back 38 [.add (.var 39) (.int 1)])))))
 (.ite (.not (.le (.var 18) (.var 24)))
 (.ret [.bool false])
 (.need (.fit (.add (.var 13) (.int 1)))
 (.back 12 [.add (.var 13) (.int 1),.var 20,.var 21,.var 22,.var 23,.var 24,.shuts (.var 25) 15]))))))))))))))))))
 (.need (.fit (.add (.var 13) (.int 1)))
 (.need (.clean (.var 25) 15)
 (.back 12 [.add (.var 13) (.int 1),.var 14,.var 15,.var 16,.var 17,.var 18,.var 19]))))))
 (.ret [.bool true]))))))))
 (.ret [.bool false])))
theorem run28 : run z28 6000 [.code (Try.f28.body.getD .skip),.fin (bt z28 Try.f28.results.toList 50)] { fn:=28,tmps:=z28.sig.aM ++ List.replicate (Try.f28.ntmps - z28.sig.aM.length) (.v (.one .undef)),stk:=[],h:=z28.sig.h0,nx:=z28.sig.ins.length,known:=[]}=t28:=by kernel_rfl
set_option maxHeartbeats 4000000 in
theorem ok28 : cB Try.prog 28 d28.ct:=by
 refine aD (d:=d28) (Z:=z28) (Γ:=gam l28) (fn:=Try.f28) (c:=Try.f28.body.getD .skip) (bg tok mixed (all_cons ok79 (all_cons ok78 (all_cons ok140 (all_cons ok134 (all_cons ok74 (all_cons ok93 all_nil)))))) (dX (c:=Try.f132.body.getD .skip) Try.func132 (by kernel_rfl) (by kernel_rfl) (dX (c:=Try.f133.body.getD .skip) Try.func133 (by kernel_rfl) (by kernel_rfl) bh))) Try.func28 (by kernel_rfl) (by kernel_rfl) rfl run28 fun E hk hp=>?_
 obtain ⟨hk0,hk1,hk2,hk3,_⟩:=hk
 obtain ⟨x,e0⟩:=ok_int (d:=E 0) hk0
 obtain ⟨x2,e1⟩:=ok_int (d:=E 1) hk1
 obtain ⟨x3,e2⟩:=ok_int (d:=E 2) hk2
 obtain ⟨l,e3,b3⟩:=Dc (d:=E 3) hk3
 have b3 : l.length * 64≤140737488355328:=b3
 have el : aH E d28.sig.ins.length=[.i x,.i x2,.i x3,eD l]:=by
  show [E 0,E 1,E 2,E 3]=_
  rw [e0,e1,e2,e3]
 rw [el] at hp
 rw [el]
 rw [Env.bJ el]
 clear el e0 e1 e2 e3
 unfold t28
 refine ai d79 [.b true] rfl trivial rfl (G0 (fun _=>?_) (fun hn=>?_))
 rotate_left
 ·skip
  simp only [nrm,xdn,reduceIte,Nat.reduceLT,Nat.reduceSub,Nat.reduceAdd] at hn
  simp at hn
 obtain ⟨N,hN⟩ : ∃ N,iw x x2 x3=N:=⟨_,rfl⟩
 refine ai d78 [au N.1.m.slots,af N.1.m.heads,af N.1.m.free,af N.1.m.ae,.i N.1.m.now,az N.1.ts,.i N.2] rfl trivial (by simp only [nrm,xdn,reduceIte,Nat.reduceLT,Nat.reduceSub,Nat.reduceAdd,d78,hN];rfl) (G0 (fun _=>aj (by simp only [nrm,xdn,reduceIte,Nat.reduceLT,Nat.reduceSub,Nat.reduceAdd];rfl)) (fun h0=>?_))
 simp only [nrm,xdn,reduceIte,Nat.reduceLT,Nat.reduceSub,Nat.reduceAdd] at h0
 have h0 : N.2=0:=by simpa using h0
 have hL0 : Inv N.1:=by rw [← hN] at h0 ⊢;exact ES h0
 refine ag (by simp only [nrm,xdn,reduceIte,Nat.reduceLT,Nat.reduceSub,Nat.reduceAdd,nc];omega) (ag (by simp only [nrm,xdn,reduceIte,Nat.reduceLT,Nat.reduceSub,Nat.reduceAdd,nc];omega) (ag (by simp only [nrm,xdn,reduceIte,Nat.reduceLT,Nat.reduceSub,Nat.reduceAdd];exact aI _) ?_))
 refine bO (fun ds=>∃ (i : Nat) (w : Wrd),ds=[.i i,au w.m.slots,af w.m.heads,af w.m.free,af w.m.ae,.i w.m.now,G2 w.ts]∧Inv w.bm) (fun ds=>(min l.length 300) - (ds.getD 0 .u).int.toNat) ⟨0,N.1,?_,hL0.bm⟩ ?_
 ·simp only [nrm,xdn,reduceIte,Nat.reduceLT,Nat.reduceSub,Nat.reduceAdd,cg];rfl
 rintro ds - ⟨i,w,rfl,hL⟩
 obtain ⟨mn,hmn⟩ : ∃ mn : Nat,(if (300 : Int) < (l.length : Int) then (300 : Int) else (l.length : Int))=mn∧mn=min l.length 300:=⟨min l.length 300,by split <;> omega,rfl⟩
 refine G0 (fun hlt=>?_) (fun _=>aj (by simp only [nrm,xdn,reduceIte,Nat.reduceLT,Nat.reduceSub,Nat.reduceAdd];rfl))
 simp only [nrm,xdn,reduceIte,Nat.reduceLT,Nat.reduceSub,Nat.reduceAdd,nc,hmn.1,Int.toNat_natCast,List.length_take] at hlt
 obtain ⟨q,hq⟩ : ∃ q,l.getD i default=q:=⟨_,rfl⟩
 have hcell : ∀ o,(((eD l).rows.take mn).getD i []).getD o .u=q.row.getD o .u:=fun o=>by
  have ht : ((eD l).rows.take mn).getD i []=(eD l).rows.getD i []:=by
   rw [List.getD_eq_getElem?_getD (l:=(eD l).rows.take mn),List.getElem?_take,if_pos (by omega),← List.getD_eq_getElem?_getD]
  rw [← hq,ht]
  exact dh Pik.row l i o (by omega)
 have c0 : (((eD l).rows.take mn).getD i []).getD 0 .u=.i q.task:=hcell 0
 have c1 : (((eD l).rows.take mn).getD i []).getD 1 .u=.b q.step:=hcell 1
 have c2 : (((eD l).rows.take mn).getD i []).getD 2 .u=.b q.tick:=hcell 2
 have c3 : (((eD l).rows.take mn).getD i []).getD 3 .u=.i q.c.kind:=hcell 3
 have c4 : (((eD l).rows.take mn).getD i []).getD 4 .u=.i q.c.k.a:=hcell 4
 have c5 : (((eD l).rows.take mn).getD i []).getD 5 .u=.i q.c.k.b:=hcell 5
 have c6 : (((eD l).rows.take mn).getD i []).getD 6 .u=.i q.c.time:=hcell 6
 have c7 : (((eD l).rows.take mn).getD i []).getD 7 .u=.i q.c.bucket:=hcell 7
 have c8 : (((eD l).rows.take mn).getD i []).getD 8 .u=.i q.c.slot:=hcell 8
 obtain ⟨v,hv⟩ : ∃ v,doW w.G4 q=v:=⟨_,rfl⟩
 refine ag (by simp only [nrm,xdn,reduceIte,Nat.reduceLT,Nat.reduceSub,Nat.reduceAdd];omega) (ai d140 [au v.1.m.slots,af v.1.m.heads,af v.1.m.free,af v.1.m.ae,.i v.1.m.now,az v.1.ts,.i v.2] rfl trivial ?_ (G0 (fun h1=>?_) (fun _=>?_)))
 ·simp only [nrm,xdn,reduceIte,Nat.reduceLT,Nat.reduceSub,Nat.reduceAdd,nc,hmn.1,Int.toNat_natCast,c0,c1,c2,c3,c4,c5,c6,c7,c8,d140,fY,aA,List.drop_succ_cons,List.drop_zero,oe,cz]
  rw [← hv];rfl
 rotate_left
 ·refine G1 (by simp only [nrm,xdn,reduceIte,Nat.reduceLT,Nat.reduceSub,Nat.reduceAdd];omega) (ag (by simp only [nrm,xdn,reduceIte,Nat.reduceLT,Nat.reduceSub,Nat.reduceAdd];exact aI _) (aV ⟨⟨i + 1,w,?_,hL⟩,?_⟩))
  ·simp only [nrm,xdn,reduceIte,Nat.reduceLT,Nat.reduceSub,Nat.reduceAdd];rfl
  ·simp only [nrm,xdn,reduceIte,Nat.reduceLT,Nat.reduceSub,Nat.reduceAdd];omega
 simp only [nrm,xdn,reduceIte,Nat.reduceLT,Nat.reduceSub,Nat.reduceAdd] at h1
 have h1 : v.2=0:=by simpa using h1
 have hw : v.1=(bN w.bm q).1:=by
  rw [← hv] at h1 ⊢
  unfold doW at h1 ⊢
  split at h1
  ·rename_i h2;exact absurd h1 h2
  ·rename_i h2
   rw [if_neg h2]
   rw [iQ] at h1 ⊢
   split at h1
   ·rename_i h3;exact absurd h1 h3
   ·rename_i h3
    rw [if_neg h3]
 have hV : Inv v.1:=by rw [hw];exact xg hL q
 have hE : Eff w.m v.1.m:=by rw [hw];exact MM hL q
 obtain ⟨k1,k2⟩:=hV.G4.check
 have hfl : qw v.1.G4=(aq v.1.m,0):=by
  unfold qw jM
  rw [if_neg (fun y=>y k1),if_neg (fun y=>y k2)];rfl
 have hLl : w.bm.G4=w.G4:=by simp only [Wrd.G4,Wrd.bm,List.map_map];rfl
 have hw0:=hL.G4
 rw [hLl] at hw0
 obtain ⟨j1,j2⟩:=hw0.check
 have hfw : qw w.G4=(aq w.m,0):=by
  unfold qw jM
  rw [if_neg (fun y=>y j1),if_neg (fun y=>y j2)];rfl
 have hout:=No hE
 obtain ⟨A,hA⟩ : ∃ A,aq w.m=A:=⟨_,rfl⟩
 obtain ⟨B,hB⟩ : ∃ B,aq v.1.m=B:=⟨_,rfl⟩
 have hAl : A.length≤48:=by rw [← hA];exact pC hw0.ch.mem
 have hBl : B.length≤48:=by rw [← hB];exact pC hV.ch.mem
 rw [hA,hB] at hout
 refine ai d134 [eM A,.i 0] rfl trivial ?_ (ag (by simp only [nrm,xdn,reduceIte,Nat.reduceLT,Nat.reduceSub,Nat.reduceAdd];exact aI _) (ai d134 [eM B,.i 0] rfl trivial ?_ (G0 (fun hn=>?_) (fun _=>G0 (fun hn=>?_) (fun _=>?_)))))
 ·simp only [nrm,xdn,reduceIte,Nat.reduceLT,Nat.reduceSub,Nat.reduceAdd,d134,fY,aA]
  rw [show Wrd.G4 ⟨w.m,w.ts⟩=w.G4 from rfl,hfw,hA]
 ·simp only [nrm,xdn,reduceIte,Nat.reduceLT,Nat.reduceSub,Nat.reduceAdd,cg,d134,fY,aA]
  rw [show Wrd.G4 ⟨v.1.m,v.1.ts⟩=v.1.G4 from rfl,hfl,hB]
 ·skip
  simp only [nrm,xdn,reduceIte,Nat.reduceLT,Nat.reduceSub,Nat.reduceAdd] at hn
  simp at hn
 ·skip
  simp only [nrm,xdn,reduceIte,Nat.reduceLT,Nat.reduceSub,Nat.reduceAdd] at hn
  simp at hn
 refine ai d74 [.i 0] rfl trivial (by simp only [nrm,xdn,reduceIte,Nat.reduceLT,Nat.reduceSub,Nat.reduceAdd,fn74];rw [show bU v.1.m=0 from k2]) (G0 (fun hn=>?_) (fun _=>?_))
 ·skip
  simp only [nrm,xdn,reduceIte,Nat.reduceLT,Nat.reduceSub,Nat.reduceAdd] at hn
  simp at hn
 refine bO (fun ds=>∃ j : Nat,ds=[.i (IF B (A.take j) : Nat),.i j]∧j≤A.length) (fun ds=>A.length - (ds.getD 1 .u).int.toNat) ⟨0,?_,by omega⟩ ?_
 ·simp only [nrm,xdn,reduceIte,Nat.reduceLT,Nat.reduceSub,Nat.reduceAdd];rfl
 rintro ds - ⟨j,rfl,hj⟩
 have hp1:=KE (a:=A) (b:=B) (j:=j)
 refine G0 (fun h2=>?_) (fun h2=>?_)
 ·simp only [nrm,xdn,reduceIte,Nat.reduceLT,Nat.reduceSub,Nat.reduceAdd,iT] at h2
  obtain ⟨f,hf⟩ : ∃ f,A.getD j default=f:=⟨_,rfl⟩
  have c : ∀ o,((eM A).rows.getD j []).getD o .u=f.row.getD o .u:=fun o=>by rw [← hf];exact dh cI.row A j o (by omega)
  have d0 : ((eM A).rows.getD j []).getD 0 .u=.i f.k.a:=c 0
  have d1 : ((eM A).rows.getD j []).getD 1 .u=.i f.k.b:=c 1
  have d2 : ((eM A).rows.getD j []).getD 2 .u=.i f.slot:=c 2
  have d3 : ((eM A).rows.getD j []).getD 3 .u=.i f.till:=c 3
  have hs:=KD (a:=A) (b:=B) (j:=j) (by omega)
  rw [hf] at hs
  refine ag (by simp only [nrm,xdn,reduceIte,Nat.reduceLT,Nat.reduceSub,Nat.reduceAdd];omega) (ai d93 [.b (decide (f∈B))] rfl trivial (by simp only [nrm,xdn,reduceIte,Nat.reduceLT,Nat.reduceSub,Nat.reduceAdd,Int.toNat_natCast,d0,d1,d2,d3,fn93]) (G0 (fun h3=>?_) (fun h3=>?_)))
  ·simp only [nrm,xdn,reduceIte,Nat.reduceLT,Nat.reduceSub,Nat.reduceAdd] at h3
   have h3 : f ∉ B:=by simpa using h3
   rw [if_neg h3] at hs
   refine G1 (by simp only [nrm,xdn,reduceIte,Nat.reduceLT,Nat.reduceSub,Nat.reduceAdd];omega) (G1 (by simp only [nrm,xdn,reduceIte,Nat.reduceLT,Nat.reduceSub,Nat.reduceAdd];omega) (aV ⟨⟨j + 1,?_,by omega⟩,?_⟩))
   ·simp only [nrm,xdn,reduceIte,Nat.reduceLT,Nat.reduceSub,Nat.reduceAdd,hs];rfl
   ·simp only [nrm,xdn,reduceIte,Nat.reduceLT,Nat.reduceSub,Nat.reduceAdd];omega
  ·simp only [nrm,xdn,reduceIte,Nat.reduceLT,Nat.reduceSub,Nat.reduceAdd] at h3
   have h3 : f∈B:=by simpa using h3
   rw [if_pos h3] at hs
   refine G1 (by simp only [nrm,xdn,reduceIte,Nat.reduceLT,Nat.reduceSub,Nat.reduceAdd];omega) (aV ⟨⟨j + 1,?_,by omega⟩,?_⟩)
   ·simp only [nrm,xdn,reduceIte,Nat.reduceLT,Nat.reduceSub,Nat.reduceAdd,hs];rfl
   ·simp only [nrm,xdn,reduceIte,Nat.reduceLT,Nat.reduceSub,Nat.reduceAdd];omega
 refine bO (fun ds=>∃ k : Nat,ds=[.i (IF A (B.take k) : Nat),.i k]∧k≤B.length) (fun ds=>B.length - (ds.getD 1 .u).int.toNat) ⟨0,?_,by omega⟩ ?_
 ·simp only [nrm,xdn,reduceIte,Nat.reduceLT,Nat.reduceSub,Nat.reduceAdd];rfl
 rintro ds - ⟨k,rfl,hk⟩
 have hp2:=KE (a:=B) (b:=A) (j:=k)
 refine G0 (fun h3=>?_) (fun h3=>?_)
 ·simp only [nrm,xdn,reduceIte,Nat.reduceLT,Nat.reduceSub,Nat.reduceAdd,iT] at h3
  obtain ⟨f,hf⟩ : ∃ f,B.getD k default=f:=⟨_,rfl⟩
  have c : ∀ o,((eM B).rows.getD k []).getD o .u=f.row.getD o .u:=fun o=>by rw [← hf];exact dh cI.row B k o (by omega)
  have d0 : ((eM B).rows.getD k []).getD 0 .u=.i f.k.a:=c 0
  have d1 : ((eM B).rows.getD k []).getD 1 .u=.i f.k.b:=c 1
  have d2 : ((eM B).rows.getD k []).getD 2 .u=.i f.slot:=c 2
  have d3 : ((eM B).rows.getD k []).getD 3 .u=.i f.till:=c 3
  have hs:=KD (a:=B) (b:=A) (j:=k) (by omega)
  rw [hf] at hs
  refine ag (by simp only [nrm,xdn,reduceIte,Nat.reduceLT,Nat.reduceSub,Nat.reduceAdd];omega) (ai d93 [.b (decide (f∈A))] rfl trivial (by simp only [nrm,xdn,reduceIte,Nat.reduceLT,Nat.reduceSub,Nat.reduceAdd,Int.toNat_natCast,d0,d1,d2,d3,fn93]) (G0 (fun h4=>?_) (fun h4=>?_)))
  ·simp only [nrm,xdn,reduceIte,Nat.reduceLT,Nat.reduceSub,Nat.reduceAdd] at h4
   have h4 : f ∉ A:=by simpa using h4
   rw [if_neg h4] at hs
   refine G1 (by simp only [nrm,xdn,reduceIte,Nat.reduceLT,Nat.reduceSub,Nat.reduceAdd];omega) (G1 (by simp only [nrm,xdn,reduceIte,Nat.reduceLT,Nat.reduceSub,Nat.reduceAdd];omega) (aV ⟨⟨k + 1,?_,by omega⟩,?_⟩))
   ·simp only [nrm,xdn,reduceIte,Nat.reduceLT,Nat.reduceSub,Nat.reduceAdd,hs];rfl
   ·simp only [nrm,xdn,reduceIte,Nat.reduceLT,Nat.reduceSub,Nat.reduceAdd];omega
  ·simp only [nrm,xdn,reduceIte,Nat.reduceLT,Nat.reduceSub,Nat.reduceAdd] at h4
   have h4 : f∈A:=by simpa using h4
   rw [if_pos h4] at hs
   refine G1 (by simp only [nrm,xdn,reduceIte,Nat.reduceLT,Nat.reduceSub,Nat.reduceAdd];omega) (aV ⟨⟨k + 1,?_,by omega⟩,?_⟩)
   ·simp only [nrm,xdn,reduceIte,Nat.reduceLT,Nat.reduceSub,Nat.reduceAdd,hs];rfl
   ·simp only [nrm,xdn,reduceIte,Nat.reduceLT,Nat.reduceSub,Nat.reduceAdd];omega
 refine G1 (by simp only [nrm,xdn,reduceIte,Nat.reduceLT,Nat.reduceSub,Nat.reduceAdd];omega) (G0 (fun hn=>?_) (fun _=>?_))
 ·simp only [nrm,xdn,reduceIte,Nat.reduceLT,Nat.reduceSub,Nat.reduceAdd] at hn
  omega
 obtain ⟨n,hn⟩ : ∃ n,w.m.slots.length=n:=⟨_,rfl⟩
 have hlen:=hE.len
 rw [hn] at hlen
 have hns:=hw0.ch.mem.ns
 have hns : n≤12:=by rw [← hn];exact hns
 refine bO (fun ds=>∃ s : Nat,ds=[.i s]∧s≤n) (fun ds=>n - (ds.getD 0 .u).int.toNat) ⟨0,rfl,by omega⟩ ?_
 rintro ds - ⟨s,rfl,hs⟩
 refine G0 (fun h4=>?_) (fun h4=>?_)
 ·simp only [nrm,xdn,reduceIte,Nat.reduceLT,Nat.reduceSub,Nat.reduceAdd,aN] at h4
  have hsn : s < n:=by omega
  have p0 : ((au w.m.slots).rows.getD s []).getD 0 .u=.i (msl w.m s).refs:=KW (by omega)
  have p1 : ((au w.m.slots).rows.getD s []).getD 1 .u=.i (msl w.m s).k.a:=qc (by omega)
  have p2 : ((au w.m.slots).rows.getD s []).getD 2 .u=.i (msl w.m s).k.b:=qb (by omega)
  have p3 : ((au w.m.slots).rows.getD s []).getD 3 .u=.i (msl w.m s).till:=FO (by omega)
  have r0 : ((au v.1.m.slots).rows.getD s []).getD 0 .u=.i (msl v.1.m s).refs:=KW (by omega)
  have r1 : ((au v.1.m.slots).rows.getD s []).getD 1 .u=.i (msl v.1.m s).k.a:=qc (by omega)
  have r2 : ((au v.1.m.slots).rows.getD s []).getD 2 .u=.i (msl v.1.m s).k.b:=qb (by omega)
  have r3 : ((au v.1.m.slots).rows.getD s []).getD 3 .u=.i (msl v.1.m s).till:=FO (by omega)
  have hr:=(hw0.ch.mem.sl (i:=s) (by show s < w.m.slots.length;omega))
  have hr0 : 0≤(msl w.m s).refs:=hr.r0
  have hr1 : (msl w.m s).refs≤1000:=hr.r1
  refine ag (by simp only [nrm,xdn,reduceIte,Nat.reduceLT,Nat.reduceSub,Nat.reduceAdd];omega) (ag (by simp only [nrm,xdn,reduceIte,Nat.reduceLT,Nat.reduceSub,Nat.reduceAdd,aN];omega) (G0 (fun h5=>?_) (fun _=>?_)))
  rotate_left
  ·refine G1 (by simp only [nrm,xdn,reduceIte,Nat.reduceLT,Nat.reduceSub,Nat.reduceAdd];omega) (aV ⟨⟨s + 1,?_,by omega⟩,?_⟩)
   ·simp only [nrm,xdn,reduceIte,Nat.reduceLT,Nat.reduceSub,Nat.reduceAdd];rfl
   ·simp only [nrm,xdn,reduceIte,Nat.reduceLT,Nat.reduceSub,Nat.reduceAdd];omega
  simp only [nrm,xdn,reduceIte,Nat.reduceLT,Nat.reduceSub,Nat.reduceAdd,Int.toNat_natCast,p0] at h5
  refine G0 (fun h6=>?_) (fun _=>?_)
  rotate_left
  ·refine G1 (by simp only [nrm,xdn,reduceIte,Nat.reduceLT,Nat.reduceSub,Nat.reduceAdd];omega) (aV ⟨⟨s + 1,?_,by omega⟩,?_⟩)
   ·simp only [nrm,xdn,reduceIte,Nat.reduceLT,Nat.reduceSub,Nat.reduceAdd];rfl
   ·simp only [nrm,xdn,reduceIte,Nat.reduceLT,Nat.reduceSub,Nat.reduceAdd];omega
  simp only [nrm,xdn,reduceIte,Nat.reduceLT,Nat.reduceSub,Nat.reduceAdd,Int.toNat_natCast,r0] at h6
  obtain ⟨s1,s2,s3,s4⟩:=hE.sl s (by omega) h5 h6
  refine G0 (fun hn=>?_) (fun _=>G0 (fun hn=>?_) (fun _=>G1 (by simp only [nrm,xdn,reduceIte,Nat.reduceLT,Nat.reduceSub,Nat.reduceAdd,Int.toNat_natCast,p0];omega) (G0 (fun hn=>?_) (fun _=>G1 (by simp only [nrm,xdn,reduceIte,Nat.reduceLT,Nat.reduceSub,Nat.reduceAdd,Int.toNat_natCast,p0];omega) (G0 (fun hn=>?_) (fun _=>?_))))))
  ·simp only [nrm,xdn,reduceIte,Nat.reduceLT,Nat.reduceSub,Nat.reduceAdd,Int.toNat_natCast,p1,p2,r1,r2,s1] at hn
   simp at hn
  ·simp only [nrm,xdn,reduceIte,Nat.reduceLT,Nat.reduceSub,Nat.reduceAdd,Int.toNat_natCast,p3,r3,s2] at hn
   simp at hn
  ·simp only [nrm,xdn,reduceIte,Nat.reduceLT,Nat.reduceSub,Nat.reduceAdd,Int.toNat_natCast,p0,r0] at hn
   omega
  ·simp only [nrm,xdn,reduceIte,Nat.reduceLT,Nat.reduceSub,Nat.reduceAdd,Int.toNat_natCast,p0,r0] at hn
   omega
  ·refine G1 (by simp only [nrm,xdn,reduceIte,Nat.reduceLT,Nat.reduceSub,Nat.reduceAdd];omega) (aV ⟨⟨s + 1,?_,by omega⟩,?_⟩)
   ·simp only [nrm,xdn,reduceIte,Nat.reduceLT,Nat.reduceSub,Nat.reduceAdd];rfl
   ·simp only [nrm,xdn,reduceIte,Nat.reduceLT,Nat.reduceSub,Nat.reduceAdd];omega
 have hnow:=hE.now
 refine G0 (fun hn=>?_) (fun _=>?_)
 ·simp only [nrm,xdn,reduceIte,Nat.reduceLT,Nat.reduceSub,Nat.reduceAdd] at hn
  have hn : ¬ w.m.now≤v.1.m.now:=by simpa using hn
  exact absurd hnow hn
 ·refine G1 (by simp only [nrm,xdn,reduceIte,Nat.reduceLT,Nat.reduceSub,Nat.reduceAdd];omega) (JN (by decide) (by decide) (by decide) ⟨⟨i + 1,v.1,?_,hV.bm⟩,?_⟩)
  ·simp only [nrm,xdn,reduceIte,Nat.reduceLT,Nat.reduceSub,Nat.reduceAdd,cg];rfl
  ·simp only [nrm,xdn,reduceIte,Nat.reduceLT,Nat.reduceSub,Nat.reduceAdd];omega
end Go.Proofs.Ytpmamacjepcdmaa
