import Derived.Test.YtpmamacjepcdmaaCEndC
namespace Go.Proofs.Ytpmamacjepcdmaa
open Go Go.Sy Go.RowKit
set_option linter.unusedSimpArgs false
set_option linter.unusedVariables false
theorem Ld : ∀ {l : List Pik} {i : Nat} {s : qE},Inv s.w.bm→Acy s.w.m→Inv (w6 l i s).w.bm∧Acy (w6 l i s).w.m
 | [],_,_,h,ha=>⟨h,ha⟩
 | x :: l,i,s,h,ha=>by
  have h1:=(xg h x).bm
  have h2 : Acy (bN s.w.bm x).1.m:=Acy.pick h ha x
  show Inv (w6 l (i + 1) (kH i x s)).w.bm∧Acy (w6 l (i + 1) (kH i x s)).w.m
  refine Ld ?_ ?_
  ·unfold kH
   repeat' split
   all_goals first
    | exact h
    | exact h1
  ·unfold kH
   repeat' split
   all_goals first
    | exact ha
    | exact h2
theorem MK {w : Wrd} (h : Inv w.bm) (ha : Acy w.m) {l : List Pik} (hl : l.length≤300) : (BK w.G4 l).2=0∧Inv (BK w.G4 l).1.w.bm∧Acy (BK w.G4 l).1.w.m:=by
 have hc : bL w.G4=0:=by
  have:=h.G4.check.1
  rwa [show w.bm.G4=w.G4 by simp only [Wrd.G4,Wrd.bm,List.map_map];rfl] at this
 unfold BK
 rw [if_neg (fun y=>y hc),if_neg (by omega)]
 refine ⟨rfl,Ld ?_ ?_⟩
 ·show Inv w.G4.bm.bm
  rw [iQ];exact h.bm
 ·exact ha
def s31 : Sig:=⟨[.one (.int .i64),.one (.int .i64),.one (.int .i64),.one (.fz kQ)],[.one (.bool)]⟩
def d31 : DC:=⟨s31,fun _=>True,fun _=>[.b true]⟩
def l31 : List (Nat × Ct):=[(78,d78.ct),(79,d79.ct),(80,d80.ct),(137,d137.ct)]
noncomputable def z31 : Cx:={ T:=ttA,C:=sigs l31,F:=[(116,Try.f116),(138,Try.f138),(195,Try.f195)],hints:=[⟨195,2,false,[(8,.lt)],[],[],[],0,0,false⟩],sig:=s31}
def t31 : Tree :=
 (.call 78 [.var 0,.var 1,.var 2] 4
 (.call 79 [] 11
 (.ite (.not (.var 11))
 (.call 79 [] 12
 (.ret [.var 12]))
 (.ite (.not (.eq (.var 10) (.int 0)))
 (.call 79 [] 12
 (.ret [.var 12]))
 (.need (.le (.int 0) (.min (.len (.var 3)) (.int 300)))
 (.need (.le (.min (.len (.var 3)) (.int 300)) (.len (.var 3)))
 (.need (.clean (.var 9) 15)
 (.call 80 [.var 4,.var 5,.var 6,.var 7,.var 8,.shuts (.var 9) 15,.take (.min (.len (.var 3)) (.int 300)) (.var 3)] 12
 (.ite (.not (.eq (.var 20) (.int 0)))
 (.ret [.bool false])
 (.call 137 [.var 12,.var 13,.var 14,.var 15,.var 16,.var 17,.int 400] 21
 (.ite (.var 27)
 (.loop 28 [.int .i64] [.int 0]
 (.ite (.lt (.var 29) (.len (.var 24)))
 (.need (.le (.int 0) (.var 29))
 (.ite (.not (.eq (.cell (.var 24) (.var 29) 0) (.int (-1))))
 (.ret [.not (.le (.int 0) (.var 29))])
 (.need (.fit (.add (.var 29) (.int 1)))
 (.back 28 [.add (.var 29) (.int 1)]))))
 (.ret [.bool true])))
 (.ret [.bool false]))))))))))))
theorem run31 : run z31 6000 [.code (Try.f31.body.getD .skip),.fin (bt z31 Try.f31.results.toList 50)] { fn:=31,tmps:=z31.sig.aM ++ List.replicate (Try.f31.ntmps - z31.sig.aM.length) (.v (.one .undef)),stk:=[],h:=z31.sig.h0,nx:=z31.sig.ins.length,known:=[]}=t31:=by kernel_rfl
set_option maxHeartbeats 4000000 in
theorem ok31 : cB Try.prog 31 d31.ct:=by
 refine aD (d:=d31) (Z:=z31) (Γ:=gam l31) (fn:=Try.f31) (c:=Try.f31.body.getD .skip) (bg tok mixed (all_cons ok78 (all_cons ok79 (all_cons ok80 (all_cons ok137 all_nil)))) (dX (c:=Try.f116.body.getD .skip) Try.func116 (by kernel_rfl) (by kernel_rfl) (dX (c:=Try.f138.body.getD .skip) Try.func138 (by kernel_rfl) (by kernel_rfl) (dX (c:=Try.f195.body.getD .skip) Try.func195 (by kernel_rfl) (by kernel_rfl) bh)))) Try.func31 (by kernel_rfl) (by kernel_rfl) rfl run31 fun E hk hp=>?_
 obtain ⟨hk0,hk1,hk2,hk3,_⟩:=hk
 obtain ⟨x,e0⟩:=ok_int (d:=E 0) hk0
 obtain ⟨x2,e1⟩:=ok_int (d:=E 1) hk1
 obtain ⟨x3,e2⟩:=ok_int (d:=E 2) hk2
 obtain ⟨l,e3,b3⟩:=Dc (d:=E 3) hk3
 have b3 : l.length * 64≤140737488355328:=b3
 have el : aH E d31.sig.ins.length=[.i x,.i x2,.i x3,eD l]:=by
  show [E 0,E 1,E 2,E 3]=_
  rw [e0,e1,e2,e3]
 rw [el] at hp
 rw [el]
 rw [Env.bJ el]
 clear el e0 e1 e2 e3
 unfold t31
 obtain ⟨N,hN⟩ : ∃ N,iw x x2 x3=N:=⟨_,rfl⟩
 refine ai d78 [au N.1.m.slots,af N.1.m.heads,af N.1.m.free,af N.1.m.ae,.i N.1.m.now,az N.1.ts,.i N.2] rfl trivial (by simp only [nrm,xdn,reduceIte,Nat.reduceLT,Nat.reduceSub,Nat.reduceAdd,d78,hN];rfl) (ai d79 [.b true] rfl trivial rfl (G0 (fun hn=>?_) (fun _=>G0 (fun _=>ai d79 [.b true] rfl trivial rfl (aj (by simp only [nrm,xdn,reduceIte,Nat.reduceLT,Nat.reduceSub,Nat.reduceAdd];rfl))) (fun h0=>?_))))
 ·skip
  simp only [nrm,xdn,reduceIte,Nat.reduceLT,Nat.reduceSub,Nat.reduceAdd] at hn
  simp at hn
 simp only [nrm,xdn,reduceIte,Nat.reduceLT,Nat.reduceSub,Nat.reduceAdd] at h0
 have h0 : N.2=0:=by simpa using h0
 have hL0 : Inv N.1:=by rw [← hN] at h0 ⊢;exact ES h0
 have hA0 : Acy N.1.m:=by rw [← hN] at h0 ⊢;exact Acy.new h0
 obtain ⟨mn,hmn⟩ : ∃ mn : Nat,(if (300 : Int) < (l.length : Int) then (300 : Int) else (l.length : Int))=mn∧mn=min l.length 300:=⟨min l.length 300,by split <;> omega,rfl⟩
 obtain ⟨r,hr⟩ : ∃ r,BK N.1.G4 (l.take mn)=r:=⟨_,rfl⟩
 obtain ⟨r0,r1,r2⟩:=MK hL0.bm hA0 (l:=l.take mn) (by rw [List.length_take];omega)
 rw [hr] at r0 r1 r2
 refine ag (by simp only [nrm,xdn,reduceIte,Nat.reduceLT,Nat.reduceSub,Nat.reduceAdd,nc];omega) (ag (by simp only [nrm,xdn,reduceIte,Nat.reduceLT,Nat.reduceSub,Nat.reduceAdd,nc];omega) (ag (by simp only [nrm,xdn,reduceIte,Nat.reduceLT,Nat.reduceSub,Nat.reduceAdd];exact aI _) ?_))
 refine ai d80 (r.1.w.tM ++ [af r.1.said,gl r.1.past,.i r.2]) rfl trivial ?_ ?_
 ·simp only [nrm,xdn,reduceIte,Nat.reduceLT,Nat.reduceSub,Nat.reduceAdd,cg,nc,hmn.1,Int.toNat_natCast]
  rw [show CD.l ((eD l).rows.take mn)=eD (l.take mn) by simp only [eD,CD.ax,List.map_take]]
  simp only [d80,fY,List.getD_cons_zero,List.getD_cons_succ,oZ]
  rw [← hr]
 refine G0 (fun hn=>?_) (fun _=>?_)
 ·simp only [nrm,xdn,reduceIte,Nat.reduceLT,Nat.reduceSub,Nat.reduceAdd,Wrd.tM,Mem.cds,lca,r0] at hn
  simp at hn
 obtain ⟨V,hV⟩ : ∃ V,dB 400 r.1.w.bm=V:=⟨_,rfl⟩
 have hs:=LU r1
 have hb:=Jy (R:=400) (w:=r.1.w.bm) (by omega) r1 r2
 obtain ⟨v1,v2,v3⟩:=vl 400 r1 r2
 rw [hV] at hb v1 v2 v3
 have hlk:=zL v1 hb
 refine ai d137 (V.tM ++ [.b true]) rfl ?_ ?_ (G0 (fun _=>?_) (fun hn=>?_))
 ·simp only [nrm,xdn,reduceIte,Nat.reduceLT,Nat.reduceSub,Nat.reduceAdd,Wrd.tM,Mem.cds,lca,d137,fY,aA]
  exact ⟨by rw [iQ];exact r1,by omega⟩
 ·simp only [nrm,xdn,reduceIte,Nat.reduceLT,Nat.reduceSub,Nat.reduceAdd,Wrd.tM,Mem.cds,lca,d137,fY,aA]
  rw [iQ]
  show (dB 400 r.1.w.bm).tM ++ [.b (!eQ (dB 400 r.1.w.bm))]=_
  rw [hV,hb];rfl
 rotate_left
 ·simp only [nrm,xdn,reduceIte,Nat.reduceLT,Nat.reduceSub,Nat.reduceAdd,Wrd.tM,Mem.cds,lca] at hn
  simp at hn
 refine bO (fun ds=>∃ k : Nat,ds=[.i k]∧k≤V.m.ae.length) (fun ds=>V.m.ae.length - (ds.getD 0 .u).int.toNat) ⟨0,rfl,by omega⟩ ?_
 rintro ds - ⟨k,rfl,hk⟩
 have hm4:=v1.ch.mem.nh4
 have hml:=v1.ch.mem.nl
 refine G0 (fun h=>?_) (fun h=>aj (by simp only [nrm,xdn,reduceIte,Nat.reduceLT,Nat.reduceSub,Nat.reduceAdd];rfl))
 simp only [nrm,xdn,reduceIte,Nat.reduceLT,Nat.reduceSub,Nat.reduceAdd,Wrd.tM,Mem.cds,lca,aw] at h
 have hc : ((af V.m.ae).rows.getD k []).getD 0 .u=.i (-1):=by rw [iK (by omega),hlk k (by omega)]
 refine ag (by simp only [nrm,xdn,reduceIte,Nat.reduceLT,Nat.reduceSub,Nat.reduceAdd];omega) (G0 (fun hn=>?_) (fun _=>G1 (by simp only [nrm,xdn,reduceIte,Nat.reduceLT,Nat.reduceSub,Nat.reduceAdd];omega) (aV ⟨⟨k + 1,?_,by omega⟩,?_⟩)))
 ·simp only [nrm,xdn,reduceIte,Nat.reduceLT,Nat.reduceSub,Nat.reduceAdd,Wrd.tM,Mem.cds,lca,Int.toNat_natCast,hc] at hn
  simp at hn
 ·simp only [nrm,xdn,reduceIte,Nat.reduceLT,Nat.reduceSub,Nat.reduceAdd];rfl
 ·simp only [nrm,xdn,reduceIte,Nat.reduceLT,Nat.reduceSub,Nat.reduceAdd];omega
end Go.Proofs.Ytpmamacjepcdmaa
