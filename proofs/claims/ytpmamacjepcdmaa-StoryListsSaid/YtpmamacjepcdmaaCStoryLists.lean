import Derived.Test.YtpmamacjepcdmaaCLists2
import Derived.Test.YtpmamacjepcdmaaCStoryHolds
namespace Go.Proofs.Ytpmamacjepcdmaa
open Go Go.Sy Go.RowKit
set_option linter.unusedSimpArgs false
set_option linter.unusedVariables false
def s36 : Sig:=⟨[.one (.int .i64),.one (.int .i64),.one (.int .i64),.one (.fz kQ)],[.one (.bool)]⟩
def d36 : DC:=⟨s36,fun _=>True,fun _=>[.b true]⟩
def l36 : List (Nat × Ct):=[(78,d78.ct),(79,d79.ct),(80,d80.ct),(140,d140.ct),(154,d154.ct),(155,d155.ct),(71,d71.ct),(70,d70.ct),(98,d98.ct),(93,d93.ct)]
def z36 : Cx:={ T:=ttA,C:=sigs l36,F:=[],hints:=[⟨36,10,false,[(69,.lt),(14,.own 86 kV)],[(0,0,.fz kS),(0,1,.fz kI),(0,2,.fz kI),(0,3,.fz kI),(0,4,.lt),(0,5,.fz kT)],[],[],0,0,false⟩,⟨36,19,false,[(89,.lt)],[],[],[],0,0,false⟩,⟨36,25,false,[(23,.lt),(22,.lt)],[],[],[],0,0,false⟩,⟨36,41,false,[(176,.lt)],[],[],[],0,0,false⟩],sig:=s36}
def t36 : Tree :=
 (.call 78 [.var 0,.var 1,.var 2] 4
 (.call 79 [] 11
 (.ite (.not (.var 11))
 (.call 79 [] 12
 (.ret [.var 12]))
 (.ite (.not (.eq (.var 10) (.int 0)))
 (.call 79 [] 12
 (.ret [.var 12]))
 (.need (.le (.int 0) (.min (.len (.var 3)) (.int 300)))
 (.need (.le (.min (.len (.var 3)) (.int 300)) (.len (.var 3)))
 (.need (.clean (.var 9) 15)
 (.call 80 [.var 4,.var 5,.var 6,.var 7,.var 8,.shuts (.var 9) 15,.take (.min (.len (.var 3)) (.int 300)) (.var 3)] 12
 (.ite (.not (.eq (.var 20) (.int 0)))
 (.ret [.bool false])
 (.loop 21 [.sl 128 [.sl 48 [.int .i64,.int .i64,.int .i64,.int .i64,.bool,.int .i64],.sl 8 [.int .i64],.sl 8 [.int .i64],.sl 8 [.int .i64],.int .i64,.sl 160 [.bool,.int .i64,.int .i64,.int .i64,.int .i64,.int .i64,.int .i64,.int .i64,.int .i64,.int .i64,.int .i64,.int .i64,.sl 16 [.int .i64,.int .i64],.bool,.int .i64,.sl 8 [.int .i64]]],.int .i64,.sl 48 [.int .i64,.int .i64,.int .i64,.int .i64,.bool,.int .i64],.sl 8 [.int .i64],.sl 8 [.int .i64],.sl 8 [.int .i64],.int .i64,.sl 160 [.bool,.int .i64,.int .i64,.int .i64,.int .i64,.int .i64,.int .i64,.int .i64,.int .i64,.int .i64,.int .i64,.int .i64,.sl 16 [.int .i64,.int .i64],.bool,.int .i64,.sl 8 [.int .i64]]] [.cons (.var 4) (.cons (.var 5) (.cons (.var 6) (.cons (.var 7) (.cons (.var 8) (.cons (.shuts (.var 9) 15) .row0))))),.int 0,.var 4,.var 5,.var 6,.var 7,.var 8,.shuts (.var 9) 15]
 (.ite (.lt (.var 23) (.len (.take (.min (.len (.var 3)) (.int 300)) (.var 3))))
 (.need (.le (.int 0) (.var 23))
 (.call 140 [.var 24,.var 25,.var 26,.var 27,.var 28,.var 29,.cell (.take (.min (.len (.var 3)) (.int 300)) (.var 3)) (.var 23) 0,.cell (.take (.min (.len (.var 3)) (.int 300)) (.var 3)) (.var 23) 1,.cell (.take (.min (.len (.var 3)) (.int 300)) (.var 3)) (.var 23) 2,.cell (.take (.min (.len (.var 3)) (.int 300)) (.var 3)) (.var 23) 3,.cell (.take (.min (.len (.var 3)) (.int 300)) (.var 3)) (.var 23) 4,.cell (.take (.min (.len (.var 3)) (.int 300)) (.var 3)) (.var 23) 5,.cell (.take (.min (.len (.var 3)) (.int 300)) (.var 3)) (.var 23) 6,.cell (.take (.min (.len (.var 3)) (.int 300)) (.var 3)) (.var 23) 7,.cell (.take (.min (.len (.var 3)) (.int 300)) (.var 3)) (.var 23) 8] 30
 (.ite (.eq (.var 36) (.int 0))
 (.need (.clean (.var 35) 15)
 (.need (.le (.add (.len (.var 22)) (.int 1)) (.int 1099511627776))
 (.need (.fit (.add (.var 23) (.int 1)))
 (.back 21 [.app (.var 22) (.cons (.var 30) (.cons (.var 31) (.cons (.var 32) (.cons (.var 33) (.cons (.var 34) (.cons (.shuts (.var 35) 15) .row0)))))),.add (.var 23) (.int 1),.var 30,.var 31,.var 32,.var 33,.var 34,.shuts (.var 35) 15]))))
 (.need (.le (.add (.len (.var 22)) (.int 1)) (.int 1099511627776))
 (.need (.fit (.add (.var 23) (.int 1)))
 (.need (.clean (.var 35) 15)
 (.back 21 [.app (.var 22) (.cons (.var 24) (.cons (.var 25) (.cons (.var 26) (.cons (.var 27) (.cons (.var 28) (.cons (.var 29) .row0)))))),.add (.var 23) (.int 1),.var 24,.var 25,.var 26,.var 27,.var 28,.var 29])))))))
 (.loop 30 [.int .i64] [.int 0]
 (.ite (.lt (.var 31) (.len (.var 19)))
 (.need (.le (.int 0) (.var 31))
 (.ite (.eq (.cell (.var 19) (.var 31) 1) (.int 5))
 (.loop 32 [.bool,.int .i64] [.bool false,.cell (.var 19) (.var 31) 7]
 (.ite (.le (.var 34) (.cell (.var 19) (.var 31) 8))
 (.need (.fit (.add (.var 34) (.int 1)))
 (.need (.le (.int 0) (.add (.var 34) (.int 1)))
 (.need (.lt (.add (.var 34) (.int 1)) (.len (.var 22)))
 (.call 154 [.cell (.var 22) (.add (.var 34) (.int 1)) 0,.cell (.var 22) (.add (.var 34) (.int 1)) 1,.cell (.var 22) (.add (.var 34) (.int 1)) 2,.cell (.var 22) (.add (.var 34) (.int 1)) 3,.cell (.var 22) (.add (.var 34) (.int 1)) 4,.cell (.var 22) (.add (.var 34) (.int 1)) 5,.cell (.var 19) (.var 31) 5] 35
 (.ite (.not (.var 36))
 (.ret [.bool false])
 (.ite (.var 33)
 (.back 32 [.bool true,.add (.var 34) (.int 1)])
 (.call 155 [.var 35,.cell (.var 19) (.var 31) 12] 37
 (.back 32 [.var 37,.add (.var 34) (.int 1)]))))))))
 (.ite (.not (.var 33))
 (.ret [.bool false])
 (.need (.fit (.add (.var 31) (.int 1)))
 (.back 30 [.add (.var 31) (.int 1)])))))
 (.ite (.eq (.cell (.var 19) (.var 31) 1) (.int 4))
 (.need (.le (.int 0) (.cell (.var 19) (.var 31) 7))
 (.need (.lt (.cell (.var 19) (.var 31) 7) (.len (.var 22)))
 (.need (.fit (.add (.cell (.var 19) (.var 31) 8) (.int 1)))
 (.need (.le (.int 0) (.add (.cell (.var 19) (.var 31) 8) (.int 1)))
 (.need (.lt (.add (.cell (.var 19) (.var 31) 8) (.int 1)) (.len (.var 22)))
 (.call 71 [.cell (.var 22) (.cell (.var 19) (.var 31) 7) 0,.cell (.var 22) (.cell (.var 19) (.var 31) 7) 1,.cell (.var 22) (.cell (.var 19) (.var 31) 7) 2,.cell (.var 22) (.cell (.var 19) (.var 31) 7) 3,.cell (.var 22) (.cell (.var 19) (.var 31) 7) 4] 32
 (.call 71 [.cell (.var 22) (.add (.cell (.var 19) (.var 31) 8) (.int 1)) 0,.cell (.var 22) (.add (.cell (.var 19) (.var 31) 8) (.int 1)) 1,.cell (.var 22) (.add (.cell (.var 19) (.var 31) 8) (.int 1)) 2,.cell (.var 22) (.add (.cell (.var 19) (.var 31) 8) (.int 1)) 3,.cell (.var 22) (.add (.cell (.var 19) (.var 31) 8) (.int 1)) 4] 34
 (.call 70 [.cell (.var 22) (.cell (.var 19) (.var 31) 7) 0,.cell (.var 22) (.cell (.var 19) (.var 31) 7) 1,.cell (.var 22) (.cell (.var 19) (.var 31) 7) 2,.cell (.var 22) (.cell (.var 19) (.var 31) 7) 3,.cell (.var 22) (.cell (.var 19) (.var 31) 7) 4,.cell (.var 19) (.var 31) 5] 36
 (.ite (.not (.eq (.var 33) (.int 0)))
 (.ret [.bool false])
 (.ite (.not (.eq (.var 35) (.int 0)))
 (.ret [.bool false])
 (.ite (.not (.eq (.var 37) (.int 0)))
 (.ret [.bool false])
 (.loop 38 [.int .i64] [.int 0]
 (.ite (.lt (.var 39) (.len (.var 32)))
 (.need (.le (.int 0) (.var 39))
 (.ite (.le (.cell (.var 32) (.var 39) 3) (.cell (.var 22) (.cell (.var 19) (.var 31) 7) 4))
 (.call 98 [.var 36,.cell (.var 32) (.var 39) 2] 40
 (.ite (.var 40)
 (.call 93 [.var 34,.cell (.var 32) (.var 39) 0,.cell (.var 32) (.var 39) 1,.cell (.var 32) (.var 39) 2,.cell (.var 32) (.var 39) 3] 41
 (.ite (.var 41)
 (.ret [.bool false])
 (.need (.fit (.add (.var 39) (.int 1)))
 (.back 38 [.add (.var 39) (.int 1)]))))
 (.need (.fit (.add (.var 39) (.int 1)))
 (.back 38 [.add (.var 39) (.int 1)]))))
 (.need (.fit (.add (.var 39) (.int 1)))
 (.back 38 [.add (.var 39) (.int 1)]))))
 (.need (.fit (.add (.var 31) (.int 1)))
 (.back 30 [.add (.var 31) (.int 1)])))))))))))))))
 (.need (.fit (.add (.var 31) (.int 1)))
 (.back 30 [.add (.var 31) (.int 1)])))))
 (.ret [.bool true]))))))))))))))
theorem run36 : run z36 6000 [.code (Try.f36.body.getD .skip),.fin (bt z36 Try.f36.results.toList 50)] { fn:=36,tmps:=z36.sig.aM ++ List.replicate (Try.f36.ntmps - z36.sig.aM.length) (.v (.one .undef)),stk:=[],h:=z36.sig.h0,nx:=z36.sig.ins.length,known:=[]}=t36:=by kernel_rfl
set_option maxHeartbeats 8000000 in
theorem ok36 : cB Try.prog 36 d36.ct:=by
 refine aD (d:=d36) (Z:=z36) (Γ:=gam l36) (fn:=Try.f36) (c:=Try.f36.body.getD .skip) (bg tok mixed (all_cons ok78 (all_cons ok79 (all_cons ok80 (all_cons ok140 (all_cons ok154 (all_cons ok155 (all_cons ok71 (all_cons ok70 (all_cons ok98 (all_cons ok93 all_nil)))))))))) bh) Try.func36 (by kernel_rfl) (by kernel_rfl) rfl run36 fun E hk hp=>?_
 obtain ⟨hk0,hk1,hk2,hk3,_⟩:=hk
 obtain ⟨x,e0⟩:=ok_int (d:=E 0) hk0
 obtain ⟨x2,e1⟩:=ok_int (d:=E 1) hk1
 obtain ⟨x3,e2⟩:=ok_int (d:=E 2) hk2
 obtain ⟨l,e3,b3⟩:=Dc (d:=E 3) hk3
 have b3 : l.length * 64≤140737488355328:=b3
 have el : aH E d36.sig.ins.length=[.i x,.i x2,.i x3,eD l]:=by
  show [E 0,E 1,E 2,E 3]=_
  rw [e0,e1,e2,e3]
 rw [el] at hp
 rw [el]
 rw [Env.bJ el]
 clear el e0 e1 e2 e3
 unfold t36
 obtain ⟨N,hN⟩ : ∃ N,iw x x2 x3=N:=⟨_,rfl⟩
 refine ai d78 [au N.1.m.slots,af N.1.m.heads,af N.1.m.free,af N.1.m.ae,.i N.1.m.now,az N.1.ts,.i N.2] rfl trivial (by simp only [nrm,xdn,reduceIte,Nat.reduceLT,Nat.reduceSub,Nat.reduceAdd,d78,hN];rfl) (ai d79 [.b true] rfl trivial rfl (G0 (fun hn=>?_) (fun _=>G0 (fun _=>ai d79 [.b true] rfl trivial rfl (aj (by simp only [nrm,xdn,reduceIte,Nat.reduceLT,Nat.reduceSub,Nat.reduceAdd];rfl))) (fun h0=>?_))))
 ·skip
  simp only [nrm,xdn,reduceIte,Nat.reduceLT,Nat.reduceSub,Nat.reduceAdd] at hn
  simp at hn
 simp only [nrm,xdn,reduceIte,Nat.reduceLT,Nat.reduceSub,Nat.reduceAdd] at h0
 have h0 : N.2=0:=by simpa using h0
 obtain ⟨mn,hmn⟩ : ∃ mn : Nat,(if (300 : Int) < (l.length : Int) then (300 : Int) else (l.length : Int))=mn∧mn=min l.length 300:=⟨min l.length 300,by split <;> omega,rfl⟩
 obtain ⟨K,hK⟩ : ∃ K,l.take mn=K:=⟨_,rfl⟩
 have hkl : K.length≤300:=by rw [← hK,List.length_take];omega
 obtain ⟨r,hr⟩ : ∃ r,BK N.1.G4 K=r:=⟨_,rfl⟩
 have hNi : Inv N.1:=by rw [← hN] at h0 ⊢;exact ES h0
 have hid : ∀ u : Int,u < N.1.ts.length→(tsk N.1 u).busy=false:=by rw [← hN] at h0 ⊢;exact Li h0
 have hmm : N.1.bm.bm=N.1.bm:=by simp only [Wrd.bm,List.map_map];rfl
 obtain ⟨W,hW⟩ : ∃ W,wAt N.1.bm K=W:=⟨_,rfl⟩
 have hWi : ∀ j,Inv (W j)∧(W j).bm=W j:=fun j=>by rw [← hW];exact Ji hNi.bm hmm K j
 have hWh : ∀ j,(W j).m.heads.length=N.1.m.heads.length:=fun j=>by rw [← hW];exact Ky hNi.bm hmm K j
 have hWs : ∀ j,W (j + 1)=Iq (W j) (K.getD j default):=fun j=>by rw [← hW];rfl
 have hW0 : W 0=N.1.bm:=by rw [← hW];rfl
 obtain ⟨r0,r1⟩ : r.2=0∧∀ p∈r.1.past,∃ fr n : Nat,p.fr=fr∧p.to=fr + n∧fr + n < K.length∧LO (W fr).m (JL W fr (n + 1)) p:=by
  rw [← hr,← hW]
  exact LW Ms hNi hid hkl
 have htk : CD.l ((eD l).rows.take mn)=eD K:=by rw [← hK];simp only [eD,CD.ax,List.map_take]
 have htk2 : (eD l).rows.take mn=(eD K).rows:=congrArg CD.rows htk
 refine ag (by simp only [nrm,xdn,reduceIte,Nat.reduceLT,Nat.reduceSub,Nat.reduceAdd,nc];omega) (ag (by simp only [nrm,xdn,reduceIte,Nat.reduceLT,Nat.reduceSub,Nat.reduceAdd,nc];omega) (ag (by simp only [nrm,xdn,reduceIte,Nat.reduceLT,Nat.reduceSub,Nat.reduceAdd];exact aI _) ?_))
 refine ai d80 (r.1.w.tM ++ [af r.1.said,gl r.1.past,.i r.2]) rfl trivial ?_ ?_
 ·simp only [nrm,xdn,reduceIte,Nat.reduceLT,Nat.reduceSub,Nat.reduceAdd,cg,nc,hmn.1,Int.toNat_natCast]
  rw [htk]
  simp only [d80,fY,List.getD_cons_zero,List.getD_cons_succ,oZ]
  rw [← hr]
 refine G0 (fun hn=>?_) (fun _=>?_)
 ·simp only [nrm,xdn,reduceIte,Nat.reduceLT,Nat.reduceSub,Nat.reduceAdd,Wrd.tM,Mem.cds,lca,r0] at hn
  simp at hn
 obtain ⟨P,hP⟩ : ∃ P,r.1.past=P:=⟨_,rfl⟩
 have hPl : P.length≤300:=by rw [← hP,← hr];exact KC _ _ hkl
 rw [hP] at r1 ⊢
 obtain ⟨V,hV⟩ : ∃ V : Nat→List Wrd,V=fun i=>(List.range (i + 1)).map W:=⟨_,rfl⟩
 have hVl : ∀ i,(V i).length=i + 1:=fun i=>by rw [hV];simp
 have hVs : ∀ i,V (i + 1)=V i ++ [W (i + 1)]:=fun i=>by rw [hV];simp [List.range_succ]
 have hVc : ∀ i j o,j≤i→((IB (V i)).rows.getD j []).getD o .u=(W j).MB.getD o .u:=fun i j o hj=>by
  have h1:=dh Wrd.MB (V i) j o (by rw [hVl];omega)
  have h2 : (V i).getD j default=W j:=by
   rw [hV,List.getD_eq_getElem?_getD]
   simp only [List.getElem?_map]
   rw [List.getElem?_range (by omega)];rfl
  rw [h2] at h1
  exact h1
 refine bO (fun ds=>∃ i : Nat,ds=[IB (V i),.i i,au (W i).m.slots,af (W i).m.heads,af (W i).m.free,af (W i).m.ae,.i (W i).m.now,G2 (W i).ts]∧i≤K.length) (fun ds=>K.length - (ds.getD 1 .u).int.toNat) ⟨0,?_,by omega⟩ ?_
 ·simp only [nrm,xdn,reduceIte,Nat.reduceLT,Nat.reduceSub,Nat.reduceAdd,cg,CD.row,List.headD_cons]
  have hV0 : V 0=[W 0]:=by rw [hV];rfl
  rw [hV0,hW0]
  show _=[CD.l [[au N.1.m.slots,af N.1.m.heads,af N.1.m.free,af N.1.m.ae,.i N.1.m.now,G2 (N.1.ts.map Tsk.bm)]],.i ((0 : Nat) : Int),au N.1.m.slots,af N.1.m.heads,af N.1.m.free,af N.1.m.ae,.i N.1.m.now,G2 (N.1.ts.map Tsk.bm)]
  rw [Im];rfl
 rintro ds - ⟨i,rfl,hi⟩
 refine G0 (fun hlt=>?_) (fun hge=>?_)
 ·simp only [nrm,xdn,reduceIte,Nat.reduceLT,Nat.reduceSub,Nat.reduceAdd,nc,hmn.1,Int.toNat_natCast,htk] at hlt
  obtain ⟨x,hx⟩ : ∃ x,K.getD i default=x:=⟨_,rfl⟩
  have hcell : ∀ o,((eD K).rows.getD i []).getD o .u=x.row.getD o .u:=fun o=>by rw [← hx];exact dh Pik.row K i o (by omega)
  have c0 : ((eD K).rows.getD i []).getD 0 .u=.i x.task:=hcell 0
  have c1 : ((eD K).rows.getD i []).getD 1 .u=.b x.step:=hcell 1
  have c2 : ((eD K).rows.getD i []).getD 2 .u=.b x.tick:=hcell 2
  have c3 : ((eD K).rows.getD i []).getD 3 .u=.i x.c.kind:=hcell 3
  have c4 : ((eD K).rows.getD i []).getD 4 .u=.i x.c.k.a:=hcell 4
  have c5 : ((eD K).rows.getD i []).getD 5 .u=.i x.c.k.b:=hcell 5
  have c6 : ((eD K).rows.getD i []).getD 6 .u=.i x.c.time:=hcell 6
  have c7 : ((eD K).rows.getD i []).getD 7 .u=.i x.c.bucket:=hcell 7
  have c8 : ((eD K).rows.getD i []).getD 8 .u=.i x.c.slot:=hcell 8
  obtain ⟨w1,w2⟩:=hWi i
  have hs:=hWs i
  rw [hx] at hs
  obtain ⟨v,hv⟩ : ∃ v,bN (W i) x=v:=⟨_,rfl⟩
  have hd : doW (W i).G4 x=if v.2≠0 then (Wrd.none,v.2) else (v.1,0):=by
   unfold doW
   rw [if_neg (fun y=>y w1.G4.check.1),iQ,w2,hv]
  unfold Iq at hs
  rw [hv] at hs
  obtain ⟨D,hD⟩ : ∃ D,doW (W i).G4 x=D:=⟨_,rfl⟩
  rw [hD] at hd
  refine ag (by simp only [nrm,xdn,reduceIte,Nat.reduceLT,Nat.reduceSub,Nat.reduceAdd];omega) (ai d140 [au D.1.m.slots,af D.1.m.heads,af D.1.m.free,af D.1.m.ae,.i D.1.m.now,az D.1.ts,.i D.2] rfl trivial ?_ (G0 (fun h1=>?_) (fun h1=>?_)))
  ·simp only [nrm,xdn,reduceIte,Nat.reduceLT,Nat.reduceSub,Nat.reduceAdd,nc,hmn.1,Int.toNat_natCast,htk2,c0,c1,c2,c3,c4,c5,c6,c7,c8,d140,fY,aA,List.drop_succ_cons,List.drop_zero,oe,cz]
   rw [show Wrd.G4 ⟨(W i).m,(W i).ts⟩=(W i).G4 from rfl,hD];rfl
  ·simp only [nrm,xdn,reduceIte,Nat.reduceLT,Nat.reduceSub,Nat.reduceAdd] at h1
   have h1 : D.2=0:=by simpa using h1
   have e : ¬ v.2≠0:=fun e=>by
    rw [if_pos e] at hd
    rw [hd] at h1
    exact e h1
   rw [if_neg e] at hd hs
   refine ag (by simp only [nrm,xdn,reduceIte,Nat.reduceLT,Nat.reduceSub,Nat.reduceAdd];exact aI _) (ag (by simp only [nrm,xdn,reduceIte,Nat.reduceLT,Nat.reduceSub,Nat.reduceAdd,Ic,hVl];omega) (G1 (by simp only [nrm,xdn,reduceIte,Nat.reduceLT,Nat.reduceSub,Nat.reduceAdd];omega) (aV ⟨⟨i + 1,?_,by omega⟩,?_⟩)))
   ·simp only [nrm,xdn,reduceIte,Nat.reduceLT,Nat.reduceSub,Nat.reduceAdd,cg,CD.row,List.headD_cons]
    have e1 : G2 D.1.ts=G2 (W (i + 1)).ts:=by rw [hd,hs];exact (Im v.1.ts).symm
    have e2 : D.1.m=(W (i + 1)).m:=by rw [hd,hs];rfl
    rw [e1,e2,hVs,← KR];rfl
   ·simp only [nrm,xdn,reduceIte,Nat.reduceLT,Nat.reduceSub,Nat.reduceAdd];omega
  ·simp only [nrm,xdn,reduceIte,Nat.reduceLT,Nat.reduceSub,Nat.reduceAdd] at h1
   have h1 : ¬ D.2=0:=by simpa using h1
   have e : v.2≠0:=fun e=>by
    rw [if_neg (fun y=>y e)] at hd
    rw [hd] at h1
    exact h1 rfl
   rw [if_pos e] at hs
   refine ag (by simp only [nrm,xdn,reduceIte,Nat.reduceLT,Nat.reduceSub,Nat.reduceAdd,Ic,hVl];omega) (G1 (by simp only [nrm,xdn,reduceIte,Nat.reduceLT,Nat.reduceSub,Nat.reduceAdd];omega) (ag (by simp only [nrm,xdn,reduceIte,Nat.reduceLT,Nat.reduceSub,Nat.reduceAdd];exact aI _) (aV ⟨⟨i + 1,?_,by omega⟩,?_⟩)))
   ·simp only [nrm,xdn,reduceIte,Nat.reduceLT,Nat.reduceSub,Nat.reduceAdd,CD.row,List.headD_cons]
    rw [hVs,hs,← KR];rfl
   ·simp only [nrm,xdn,reduceIte,Nat.reduceLT,Nat.reduceSub,Nat.reduceAdd];omega
 simp only [nrm,xdn,reduceIte,Nat.reduceLT,Nat.reduceSub,Nat.reduceAdd,nc,hmn.1,Int.toNat_natCast,htk] at hge
 have hiK : i=K.length:=by omega
 subst hiK
 refine bO (fun ds=>∃ k : Nat,ds=[.i k]∧k≤P.length) (fun ds=>P.length - (ds.getD 0 .u).int.toNat) ⟨0,rfl,by omega⟩ ?_
 rintro ds - ⟨k,rfl,hk⟩
 refine G0 (fun h=>?_) (fun h=>aj (by simp only [nrm,xdn,reduceIte,Nat.reduceLT,Nat.reduceSub,Nat.reduceAdd];rfl))
 simp only [nrm,xdn,reduceIte,Nat.reduceLT,Nat.reduceSub,Nat.reduceAdd,Wrd.tM,Mem.cds,lca,qm] at h
 obtain ⟨p,hp⟩ : ∃ p,P.getD k default=p:=⟨_,rfl⟩
 have hpin : p∈P:=by rw [← hp,List.getD_eq_getElem?_getD,List.getElem?_eq_getElem (by omega)];exact List.getElem_mem _
 obtain ⟨fr,n,p1,p2,p3,p4⟩:=r1 p hpin
 have c : ∀ o,((gl P).rows.getD k []).getD o .u=p.row.getD o .u:=fun o=>by rw [← hp];exact dh Pst.row P k o (by omega)
 have c1 : ((gl P).rows.getD k []).getD 1 .u=.i p.c.kind:=c 1
 have c5 : ((gl P).rows.getD k []).getD 5 .u=.i p.c.bucket:=c 5
 have c7 : ((gl P).rows.getD k []).getD 7 .u=.i p.fr:=c 7
 have c8 : ((gl P).rows.getD k []).getD 8 .u=.i p.to:=c 8
 have c12 : ((gl P).rows.getD k []).getD 12 .u=bS p.keys:=c 12
 refine ag (by simp only [nrm,xdn,reduceIte,Nat.reduceLT,Nat.reduceSub,Nat.reduceAdd];omega) (G0 (fun h5=>?_) (fun _=>G0 (fun h4=>?_) (fun _=>?_)))
 ·simp only [nrm,xdn,reduceIte,Nat.reduceLT,Nat.reduceSub,Nat.reduceAdd,Wrd.tM,Mem.cds,lca,Int.toNat_natCast,c1] at h5
  obtain ⟨b0,b1,e5,_⟩:=Ln p4 (.inr h5)
  have e5:=e5 h5
  refine bO (fun ds=>∃ (f : Bool) (j : Nat),ds=[.b f,.i j]∧fr≤j∧j≤fr + n + 1∧(j=fr + n + 1→f=true)) (fun ds=>fr + n + 1 - (ds.getD 1 .u).int.toNat) ⟨false,fr,?_,by omega,by omega,fun e=>by omega⟩ ?_
  ·simp only [nrm,xdn,reduceIte,Nat.reduceLT,Nat.reduceSub,Nat.reduceAdd,Wrd.tM,Mem.cds,lca,Int.toNat_natCast,c7,p1]
  rintro ds - ⟨f,j,rfl,j0,j1,j2⟩
  refine G0 (fun h6=>?_) (fun h6=>G0 (fun hn=>?_) (fun _=>?_))
  ·simp only [nrm,xdn,reduceIte,Nat.reduceLT,Nat.reduceSub,Nat.reduceAdd,Wrd.tM,Mem.cds,lca,Int.toNat_natCast,c8,p2] at h6
   have hj : j≤fr + n:=by omega
   have hj1 : ((j : Int) + 1).toNat=j + 1:=by omega
   have v0:=hVc K.length (j + 1) 0 (by omega)
   have v1:=hVc K.length (j + 1) 1 (by omega)
   have v2:=hVc K.length (j + 1) 2 (by omega)
   have v3:=hVc K.length (j + 1) 3 (by omega)
   have v4:=hVc K.length (j + 1) 4 (by omega)
   have v5:=hVc K.length (j + 1) 5 (by omega)
   simp only [Wrd.MB,List.getD_cons_zero,List.getD_cons_succ] at v0 v1 v2 v3 v4 v5
   have hbj : p.c.bucket < (W (j + 1)).m.heads.length:=by rw [hWh] at b1 ⊢;exact b1
   have hCj:=(hWi (j + 1)).1.ch
   refine G1 (by simp only [nrm,xdn,reduceIte,Nat.reduceLT,Nat.reduceSub,Nat.reduceAdd];omega) (ag (by simp only [nrm,xdn,reduceIte,Nat.reduceLT,Nat.reduceSub,Nat.reduceAdd];omega) (ag (by simp only [nrm,xdn,reduceIte,Nat.reduceLT,Nat.reduceSub,Nat.reduceAdd,Ic,hVl];omega) (ai d154 [bS ((chL (W (j + 1)).m p.c.bucket.toNat).map (kys (W (j + 1)).m)),.b true] rfl ?_ ?_ (G0 (fun hn=>?_) (fun _=>G0 (fun h7=>?_) (fun h7=>?_))))))
   ·simp only [nrm,xdn,reduceIte,Nat.reduceLT,Nat.reduceSub,Nat.reduceAdd,Wrd.tM,Mem.cds,lca,Int.toNat_natCast,hj1,v0,v1,v2,v3,v4,v5,c5,d154,mem_of,aA]
    exact ⟨hCj,b0,hbj⟩
   ·simp only [nrm,xdn,reduceIte,Nat.reduceLT,Nat.reduceSub,Nat.reduceAdd,Wrd.tM,Mem.cds,lca,Int.toNat_natCast,hj1,v0,v1,v2,v3,v4,v5,c5,d154,mem_of,aA]
   ·skip
    simp only [nrm,xdn,reduceIte,Nat.reduceLT,Nat.reduceSub,Nat.reduceAdd] at hn
    simp at hn
   ·refine aV ⟨⟨true,j + 1,?_,by omega,by omega,fun _=>rfl⟩,?_⟩
    ·simp only [nrm,xdn,reduceIte,Nat.reduceLT,Nat.reduceSub,Nat.reduceAdd];rfl
    ·simp only [nrm,xdn,reduceIte,Nat.reduceLT,Nat.reduceSub,Nat.reduceAdd];omega
   ·refine ai d155 [.b (decide ((chL (W (j + 1)).m p.c.bucket.toNat).map (kys (W (j + 1)).m)=p.keys))] rfl trivial (by simp only [nrm,xdn,reduceIte,Nat.reduceLT,Nat.reduceSub,Nat.reduceAdd,Wrd.tM,Mem.cds,lca,Int.toNat_natCast,c12,d155,jf]) (aV ⟨⟨decide ((chL (W (j + 1)).m p.c.bucket.toNat).map (kys (W (j + 1)).m)=p.keys),j + 1,?_,by omega,by omega,fun e=>?_⟩,?_⟩)
    ·simp only [nrm,xdn,reduceIte,Nat.reduceLT,Nat.reduceSub,Nat.reduceAdd];rfl
    ·have : j=fr + n:=by omega
     rw [this]
     simpa using e5.symm
    ·simp only [nrm,xdn,reduceIte,Nat.reduceLT,Nat.reduceSub,Nat.reduceAdd];omega
  ·simp only [nrm,xdn,reduceIte,Nat.reduceLT,Nat.reduceSub,Nat.reduceAdd,Wrd.tM,Mem.cds,lca,Int.toNat_natCast,c8,p2] at h6
   simp only [nrm,xdn,reduceIte,Nat.reduceLT,Nat.reduceSub,Nat.reduceAdd] at hn
   rw [j2 (by omega)] at hn
   cases hn
  ·skip
   refine G1 (by simp only [nrm,xdn,reduceIte,Nat.reduceLT,Nat.reduceSub,Nat.reduceAdd];omega) (fj (by decide) ⟨⟨k + 1,?_,by omega⟩,?_⟩)
   ·simp only [nrm,xdn,reduceIte,Nat.reduceLT,Nat.reduceSub,Nat.reduceAdd];rfl
   ·simp only [nrm,xdn,reduceIte,Nat.reduceLT,Nat.reduceSub,Nat.reduceAdd];omega
 ·simp only [nrm,xdn,reduceIte,Nat.reduceLT,Nat.reduceSub,Nat.reduceAdd,Wrd.tM,Mem.cds,lca,Int.toNat_natCast,c1] at h4
  obtain ⟨b0,b1,_,e4⟩:=Ln p4 (.inl h4)
  have e4:=e4 h4
  have hfr : ((fr : Int)).toNat=fr:=Int.toNat_natCast fr
  have hto : ((fr : Int) + n + 1).toNat=fr + n + 1:=by omega
  have a0:=hVc K.length fr 0 (by omega)
  have a1:=hVc K.length fr 1 (by omega)
  have a2:=hVc K.length fr 2 (by omega)
  have a3:=hVc K.length fr 3 (by omega)
  have a4:=hVc K.length fr 4 (by omega)
  have q0:=hVc K.length (fr + n + 1) 0 (by omega)
  have q1:=hVc K.length (fr + n + 1) 1 (by omega)
  have q2:=hVc K.length (fr + n + 1) 2 (by omega)
  have q3:=hVc K.length (fr + n + 1) 3 (by omega)
  have q4:=hVc K.length (fr + n + 1) 4 (by omega)
  simp only [Wrd.MB,List.getD_cons_zero,List.getD_cons_succ] at a0 a1 a2 a3 a4 q0 q1 q2 q3 q4
  have hCf:=(hWi fr).1.ch
  have hCl:=(hWi (fr + n + 1)).1.ch
  have hhe : (W (fr + n + 1)).m.heads.length=(W fr).m.heads.length:=by rw [hWh,hWh]
  obtain ⟨F,hF⟩ : ∃ F,aq (W fr).m=F:=⟨_,rfl⟩
  obtain ⟨G,hG⟩ : ∃ G,aq (W (fr + n + 1)).m=G:=⟨_,rfl⟩
  obtain ⟨S,hS⟩ : ∃ S,chL (W fr).m p.c.bucket.toNat=S:=⟨_,rfl⟩
  have hFr : jM (W fr).m=(F,0):=by
   unfold jM
   rw [if_neg (fun y=>y ((rN _).2 hCf)),hF]
  have hGr : jM (W (fr + n + 1)).m=(G,0):=by
   unfold jM
   rw [if_neg (fun y=>y ((rN _).2 hCl)),hG]
  have hSr : slotsOf (W fr).m p.c.bucket=(S,0):=by rw [KB hCf b0 (by omega),hS]
  have hFl : F.length≤48:=by rw [← hF];exact pC hCf.mem
  refine ag (by simp only [nrm,xdn,reduceIte,Nat.reduceLT,Nat.reduceSub,Nat.reduceAdd,Wrd.tM,Mem.cds,lca,Int.toNat_natCast,c7,p1];omega) (ag (by simp only [nrm,xdn,reduceIte,Nat.reduceLT,Nat.reduceSub,Nat.reduceAdd,Wrd.tM,Mem.cds,lca,Int.toNat_natCast,c7,p1,Ic,hVl];omega) (G1 (by simp only [nrm,xdn,reduceIte,Nat.reduceLT,Nat.reduceSub,Nat.reduceAdd,Wrd.tM,Mem.cds,lca,Int.toNat_natCast,c8,p2];omega) (ag (by simp only [nrm,xdn,reduceIte,Nat.reduceLT,Nat.reduceSub,Nat.reduceAdd,Wrd.tM,Mem.cds,lca,Int.toNat_natCast,c8,p2];omega) (ag (by simp only [nrm,xdn,reduceIte,Nat.reduceLT,Nat.reduceSub,Nat.reduceAdd,Wrd.tM,Mem.cds,lca,Int.toNat_natCast,c8,p2,Ic,hVl];omega) ?_))))
  refine ai d71 [eM F,.i 0] rfl trivial (by simp only [nrm,xdn,reduceIte,Nat.reduceLT,Nat.reduceSub,Nat.reduceAdd,Wrd.tM,Mem.cds,lca,Int.toNat_natCast,c7,p1,a0,a1,a2,a3,a4,fn71,hFr]) ?_
  refine ai d71 [eM G,.i 0] rfl trivial (by simp only [nrm,xdn,reduceIte,Nat.reduceLT,Nat.reduceSub,Nat.reduceAdd,Wrd.tM,Mem.cds,lca,Int.toNat_natCast,c8,p2,hto,q0,q1,q2,q3,q4,fn71,hGr]) ?_
  refine ai d70 [af S,.i 0] rfl trivial (by simp only [nrm,xdn,reduceIte,Nat.reduceLT,Nat.reduceSub,Nat.reduceAdd,Wrd.tM,Mem.cds,lca,Int.toNat_natCast,c5,c7,p1,a0,a1,a2,a3,a4,fn70,hSr]) (G0 (fun hn=>?_) (fun _=>G0 (fun hn=>?_) (fun _=>G0 (fun hn=>?_) (fun _=>?_))))
  ·skip
   simp only [nrm,xdn,reduceIte,Nat.reduceLT,Nat.reduceSub,Nat.reduceAdd] at hn
   simp at hn
  ·skip
   simp only [nrm,xdn,reduceIte,Nat.reduceLT,Nat.reduceSub,Nat.reduceAdd] at hn
   simp at hn
  ·skip
   simp only [nrm,xdn,reduceIte,Nat.reduceLT,Nat.reduceSub,Nat.reduceAdd] at hn
   simp at hn
  refine bO (fun ds=>∃ j : Nat,ds=[.i j]∧j≤F.length) (fun ds=>F.length - (ds.getD 0 .u).int.toNat) ⟨0,rfl,by omega⟩ ?_
  rintro ds - ⟨j,rfl,hj⟩
  refine G0 (fun h6=>?_) (fun h6=>?_)
  rotate_left
  ·skip
   refine G1 (by simp only [nrm,xdn,reduceIte,Nat.reduceLT,Nat.reduceSub,Nat.reduceAdd];omega) (fj (by decide) ⟨⟨k + 1,?_,by omega⟩,?_⟩)
   ·simp only [nrm,xdn,reduceIte,Nat.reduceLT,Nat.reduceSub,Nat.reduceAdd];rfl
   ·simp only [nrm,xdn,reduceIte,Nat.reduceLT,Nat.reduceSub,Nat.reduceAdd];omega
  simp only [nrm,xdn,reduceIte,Nat.reduceLT,Nat.reduceSub,Nat.reduceAdd,iT] at h6
  obtain ⟨x,hx⟩ : ∃ x,F.getD j default=x:=⟨_,rfl⟩
  have hxin : x∈aq (W fr).m:=by
   rw [hF,← hx,List.getD_eq_getElem?_getD,List.getElem?_eq_getElem (by omega)];exact List.getElem_mem _
  have f : ∀ o,((eM F).rows.getD j []).getD o .u=x.row.getD o .u:=fun o=>by rw [← hx];exact dh cI.row F j o (by omega)
  have f0 : ((eM F).rows.getD j []).getD 0 .u=.i x.k.a:=f 0
  have f1 : ((eM F).rows.getD j []).getD 1 .u=.i x.k.b:=f 1
  have f2 : ((eM F).rows.getD j []).getD 2 .u=.i x.slot:=f 2
  have f3 : ((eM F).rows.getD j []).getD 3 .u=.i x.till:=f 3
  refine ag (by simp only [nrm,xdn,reduceIte,Nat.reduceLT,Nat.reduceSub,Nat.reduceAdd];omega) (G0 (fun h7=>?_) (fun _=>G1 (by simp only [nrm,xdn,reduceIte,Nat.reduceLT,Nat.reduceSub,Nat.reduceAdd];omega) (aV ⟨⟨j + 1,?_,by omega⟩,?_⟩)))
  rotate_left
  ·simp only [nrm,xdn,reduceIte,Nat.reduceLT,Nat.reduceSub,Nat.reduceAdd];rfl
  ·simp only [nrm,xdn,reduceIte,Nat.reduceLT,Nat.reduceSub,Nat.reduceAdd];omega
  simp only [nrm,xdn,reduceIte,Nat.reduceLT,Nat.reduceSub,Nat.reduceAdd,Wrd.tM,Mem.cds,lca,Int.toNat_natCast,c7,p1,a4,f3] at h7
  refine ai d98 [.b (decide (x.slot∈S))] rfl trivial (by simp only [nrm,xdn,reduceIte,Nat.reduceLT,Nat.reduceSub,Nat.reduceAdd,Int.toNat_natCast,f2,d98,bY]) (G0 (fun h8=>?_) (fun _=>G1 (by simp only [nrm,xdn,reduceIte,Nat.reduceLT,Nat.reduceSub,Nat.reduceAdd];omega) (aV ⟨⟨j + 1,?_,by omega⟩,?_⟩)))
  rotate_left
  ·simp only [nrm,xdn,reduceIte,Nat.reduceLT,Nat.reduceSub,Nat.reduceAdd];rfl
  ·simp only [nrm,xdn,reduceIte,Nat.reduceLT,Nat.reduceSub,Nat.reduceAdd];omega
  simp only [nrm,xdn,reduceIte,Nat.reduceLT,Nat.reduceSub,Nat.reduceAdd] at h8
  have h8 : x.slot∈S:=h8
  have hno : x ∉ G:=by
   rw [← hG]
   exact Mg hCf hCl hhe b0 (by omega) e4 hxin h7 (by rw [hS];exact h8)
  refine ai d93 [.b false] rfl trivial ?_ (G0 (fun hn=>?_) (fun _=>G1 (by simp only [nrm,xdn,reduceIte,Nat.reduceLT,Nat.reduceSub,Nat.reduceAdd];omega) (aV ⟨⟨j + 1,?_,by omega⟩,?_⟩)))
  ·simp only [nrm,xdn,reduceIte,Nat.reduceLT,Nat.reduceSub,Nat.reduceAdd,Int.toNat_natCast,f0,f1,f2,f3,d93,G6]
   rw [show (⟨⟨x.k.a,x.k.b⟩,x.slot,x.till⟩ : cI)=x from rfl,decide_eq_false hno]
  ·skip
   simp only [nrm,xdn,reduceIte,Nat.reduceLT,Nat.reduceSub,Nat.reduceAdd] at hn
   simp at hn
  ·simp only [nrm,xdn,reduceIte,Nat.reduceLT,Nat.reduceSub,Nat.reduceAdd];rfl
  ·simp only [nrm,xdn,reduceIte,Nat.reduceLT,Nat.reduceSub,Nat.reduceAdd];omega
 ·refine G1 (by simp only [nrm,xdn,reduceIte,Nat.reduceLT,Nat.reduceSub,Nat.reduceAdd];omega) (aV ⟨⟨k + 1,?_,by omega⟩,?_⟩)
  ·simp only [nrm,xdn,reduceIte,Nat.reduceLT,Nat.reduceSub,Nat.reduceAdd];rfl
  ·simp only [nrm,xdn,reduceIte,Nat.reduceLT,Nat.reduceSub,Nat.reduceAdd];omega
end Go.Proofs.Ytpmamacjepcdmaa
