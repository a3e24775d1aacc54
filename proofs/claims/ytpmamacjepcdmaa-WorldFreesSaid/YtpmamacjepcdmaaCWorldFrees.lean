import Derived.Test.YtpmamacjepcdmaaCFrees
namespace Go.Proofs.Ytpmamacjepcdmaa
open Go Go.Sy Go.RowKit
set_option linter.unusedSimpArgs false
set_option linter.unusedVariables false
theorem KO {w : Wrd} {k : Nat} (h : k < w.ts.length) : ((G2 w.ts).rows.getD k []).getD 15 .u=af (tsk w k).held:=dh Tsk.row w.ts k 15 h
def s32 : Sig:=⟨[.one (.int .i64),.one (.int .i64),.one (.int .i64),.one (.fz kQ)],[.one (.bool)]⟩
def d32 : DC:=⟨s32,fun _=>True,fun _=>[.b true]⟩
def l32 : List (Nat × Ct):=[(78,d78.ct),(79,d79.ct),(80,d80.ct),(137,d137.ct),(140,d140.ct),(134,d134.ct),(51,d51.ct)]
noncomputable def z32 : Cx:={ T:=ttA,C:=sigs l32,F:=[(139,Try.f139)],hints:=[⟨32,12,false,[(56,.lt)],[(0,0,.fz kS),(0,1,.fz kI),(0,2,.fz kI),(0,3,.fz kI),(0,4,.lt),(0,5,.fz kT),(15,0,.lt)],[],[],0,0,false⟩,⟨32,14,false,[],[(0,0,.fz kS),(0,1,.fz kI),(0,2,.fz kI),(0,3,.fz kI),(0,4,.lt),(0,5,.fz kT),(15,0,.lt)],[],[],0,0,false⟩,⟨32,22,false,[(90,.lt)],[(0,0,.fz kS),(0,1,.fz kI),(0,2,.fz kI),(0,3,.fz kI),(0,4,.lt),(0,5,.fz kT),(15,0,.lt)],[],[],0,0,false⟩],sig:=s32}
def t32 : Tree :=
 (.call 78 [.var 0,.var 1,.var 2] 4
 (.call 79 [] 11
 (.ite (.not (.var 11))
 (.call 79 [] 12
 (.ret [.var 12]))
 (.ite (.not (.eq (.var 10) (.int 0)))
 (.call 79 [] 12
 (.ret [.var 12]))
 (.need (.le (.int 0) (.min (.len (.var 3)) (.int 300)))
 (.need (.le (.min (.len (.var 3)) (.int 300)) (.len (.var 3)))
 (.need (.clean (.var 9) 15)
 (.call 80 [.var 4,.var 5,.var 6,.var 7,.var 8,.shuts (.var 9) 15,.take (.min (.len (.var 3)) (.int 300)) (.var 3)] 12
 (.ite (.not (.eq (.var 20) (.int 0)))
 (.ret [.bool false])
 (.call 137 [.var 12,.var 13,.var 14,.var 15,.var 16,.var 17,.int 400] 21
 (.ite (.not (.var 27))
 (.ret [.bool false])
 (.loop 28 [.int .i64,.sl 48 [.int .i64,.int .i64,.int .i64,.int .i64,.bool,.int .i64],.sl 8 [.int .i64],.sl 8 [.int .i64],.sl 8 [.int .i64],.int .i64,.sl 160 [.bool,.int .i64,.int .i64,.int .i64,.int .i64,.int .i64,.int .i64,.int .i64,.int .i64,.int .i64,.int .i64,.int .i64,.sl 16 [.int .i64,.int .i64],.bool,.int .i64,.sl 8 [.int .i64]],.bool] [.int 0,.var 21,.var 22,.var 23,.var 24,.var 25,.var 26,.var 27]
 (.ite (.lt (.var 29) (.len (.var 26)))
 (.loop 37 [.sl 48 [.int .i64,.int .i64,.int .i64,.int .i64,.bool,.int .i64],.sl 8 [.int .i64],.sl 8 [.int .i64],.sl 8 [.int .i64],.int .i64,.sl 160 [.bool,.int .i64,.int .i64,.int .i64,.int .i64,.int .i64,.int .i64,.int .i64,.int .i64,.int .i64,.int .i64,.int .i64,.sl 16 [.int .i64,.int .i64],.bool,.int .i64,.sl 8 [.int .i64]],.bool] [.var 30,.var 31,.var 32,.var 33,.var 34,.var 35,.var 36]
 (.need (.le (.int 0) (.var 29))
 (.need (.lt (.var 29) (.len (.var 43)))
 (.ite (.lt (.int 0) (.len (.cell (.var 43) (.var 29) 15)))
 (.call 140 [.var 38,.var 39,.var 40,.var 41,.var 42,.var 43,.var 29,.bool false,.bool false,.int 6,.int 0,.int 0,.int 0,.int 0,.cell (.cell (.var 43) (.var 29) 15) (.int 0) 0] 45
 (.ite (.not (.eq (.var 51) (.int 0)))
 (.ret [.bool false])
 (.need (.clean (.var 50) 15)
 (.call 137 [.var 45,.var 46,.var 47,.var 48,.var 49,.shuts (.var 50) 15,.int 100] 52
 (.ite (.not (.var 58))
 (.ret [.bool false])
 (.back 37 [.var 52,.var 53,.var 54,.var 55,.var 56,.var 57,.var 58]))))))
 (.need (.fit (.add (.var 29) (.int 1)))
 (.back 28 [.add (.var 29) (.int 1),.var 38,.var 39,.var 40,.var 41,.var 42,.var 43,.var 44]))))))
 (.call 134 [.var 30,.var 31,.var 32,.var 33,.var 34,.var 35] 37
 (.ite (.not (.eq (.var 38) (.int 0)))
 (.ret [.bool false])
 (.loop 39 [.int .i64,.sl 48 [.int .i64,.int .i64,.int .i64,.int .i64,.bool,.int .i64],.sl 8 [.int .i64],.sl 8 [.int .i64],.sl 8 [.int .i64],.int .i64,.sl 160 [.bool,.int .i64,.int .i64,.int .i64,.int .i64,.int .i64,.int .i64,.int .i64,.int .i64,.int .i64,.int .i64,.int .i64,.sl 16 [.int .i64,.int .i64],.bool,.int .i64,.sl 8 [.int .i64]],.bool] [.int 0,.var 30,.var 31,.var 32,.var 33,.var 34,.var 35,.var 36]
 (.ite (.lt (.var 40) (.len (.var 37)))
 (.need (.le (.int 0) (.var 40))
 (.call 140 [.var 41,.var 42,.var 43,.var 44,.var 45,.var 46,.int 0,.bool false,.bool false,.int 3,.cell (.var 37) (.var 40) 0,.cell (.var 37) (.var 40) 1,.int 0,.int 0,.int 0] 48
 (.ite (.not (.eq (.var 54) (.int 0)))
 (.ret [.bool false])
 (.need (.clean (.var 53) 15)
 (.call 137 [.var 48,.var 49,.var 50,.var 51,.var 52,.shuts (.var 53) 15,.int 100] 55
 (.ite (.not (.var 61))
 (.ret [.bool false])
 (.need (.fit (.add (.var 40) (.int 1)))
 (.back 39 [.add (.var 40) (.int 1),.var 55,.var 56,.var 57,.var 58,.var 59,.var 60,.var 61]))))))))
 (.ite (.eq (.len (.var 43)) (.len (.var 41)))
 (.call 51 [.var 41,.var 42,.var 43,.var 44,.var 45] 48
 (.ret [.eq (.var 48) (.int 0)]))
 (.ret [.bool false])))))))))))))))))))
theorem run32 : run z32 6000 [.code (Try.f32.body.getD .skip),.fin (bt z32 Try.f32.results.toList 50)] { fn:=32,tmps:=z32.sig.aM ++ List.replicate (Try.f32.ntmps - z32.sig.aM.length) (.v (.one .undef)),stk:=[],h:=z32.sig.h0,nx:=z32.sig.ins.length,known:=[]}=t32:=by kernel_rfl
set_option maxHeartbeats 8000000 in
theorem ok32 : cB Try.prog 32 d32.ct:=by
 refine aD (d:=d32) (Z:=z32) (Γ:=gam l32) (fn:=Try.f32) (c:=Try.f32.body.getD .skip) (bg tok mixed (all_cons ok78 (all_cons ok79 (all_cons ok80 (all_cons ok137 (all_cons ok140 (all_cons ok134 (all_cons ok51 all_nil))))))) (dX (c:=Try.f139.body.getD .skip) Try.func139 (by kernel_rfl) (by kernel_rfl) bh)) Try.func32 (by kernel_rfl) (by kernel_rfl) rfl run32 fun E hk hp=>?_
 obtain ⟨hk0,hk1,hk2,hk3,_⟩:=hk
 obtain ⟨x,e0⟩:=ok_int (d:=E 0) hk0
 obtain ⟨x2,e1⟩:=ok_int (d:=E 1) hk1
 obtain ⟨x3,e2⟩:=ok_int (d:=E 2) hk2
 obtain ⟨l,e3,b3⟩:=Dc (d:=E 3) hk3
 have b3 : l.length * 64≤140737488355328:=b3
 have el : aH E d32.sig.ins.length=[.i x,.i x2,.i x3,eD l]:=by
  show [E 0,E 1,E 2,E 3]=_
  rw [e0,e1,e2,e3]
 rw [el] at hp
 rw [el]
 rw [Env.bJ el]
 clear el e0 e1 e2 e3
 unfold t32
 obtain ⟨N,hN⟩ : ∃ N,iw x x2 x3=N:=⟨_,rfl⟩
 refine ai d78 [au N.1.m.slots,af N.1.m.heads,af N.1.m.free,af N.1.m.ae,.i N.1.m.now,az N.1.ts,.i N.2] rfl trivial (by simp only [nrm,xdn,reduceIte,Nat.reduceLT,Nat.reduceSub,Nat.reduceAdd,d78,hN];rfl) (ai d79 [.b true] rfl trivial rfl (G0 (fun hn=>?_) (fun _=>G0 (fun _=>ai d79 [.b true] rfl trivial rfl (aj (by simp only [nrm,xdn,reduceIte,Nat.reduceLT,Nat.reduceSub,Nat.reduceAdd];rfl))) (fun h0=>?_))))
 ·skip
  simp only [nrm,xdn,reduceIte,Nat.reduceLT,Nat.reduceSub,Nat.reduceAdd] at hn
  simp at hn
 simp only [nrm,xdn,reduceIte,Nat.reduceLT,Nat.reduceSub,Nat.reduceAdd] at h0
 have h0 : N.2=0:=by simpa using h0
 have hL0 : Inv N.1:=by rw [← hN] at h0 ⊢;exact ES h0
 have hA0 : Acy N.1.m:=by rw [← hN] at h0 ⊢;exact Acy.new h0
 obtain ⟨mn,hmn⟩ : ∃ mn : Nat,(if (300 : Int) < (l.length : Int) then (300 : Int) else (l.length : Int))=mn∧mn=min l.length 300:=⟨min l.length 300,by split <;> omega,rfl⟩
 obtain ⟨r,hr⟩ : ∃ r,BK N.1.G4 (l.take mn)=r:=⟨_,rfl⟩
 obtain ⟨r0,r1,r2⟩:=MK hL0.bm hA0 (l:=l.take mn) (by rw [List.length_take];omega)
 rw [hr] at r0 r1 r2
 refine ag (by simp only [nrm,xdn,reduceIte,Nat.reduceLT,Nat.reduceSub,Nat.reduceAdd,nc];omega) (ag (by simp only [nrm,xdn,reduceIte,Nat.reduceLT,Nat.reduceSub,Nat.reduceAdd,nc];omega) (ag (by simp only [nrm,xdn,reduceIte,Nat.reduceLT,Nat.reduceSub,Nat.reduceAdd];exact aI _) ?_))
 refine ai d80 (r.1.w.tM ++ [af r.1.said,gl r.1.past,.i r.2]) rfl trivial ?_ ?_
 ·simp only [nrm,xdn,reduceIte,Nat.reduceLT,Nat.reduceSub,Nat.reduceAdd,cg,nc,hmn.1,Int.toNat_natCast]
  rw [show CD.l ((eD l).rows.take mn)=eD (l.take mn) by simp only [eD,CD.ax,List.map_take]]
  simp only [d80,fY,List.getD_cons_zero,List.getD_cons_succ,oZ]
  rw [← hr]
 refine G0 (fun hn=>?_) (fun _=>?_)
 ·simp only [nrm,xdn,reduceIte,Nat.reduceLT,Nat.reduceSub,Nat.reduceAdd,Wrd.tM,Mem.cds,lca,r0] at hn
  simp at hn
 obtain ⟨V,hV⟩ : ∃ V,dB 400 r.1.w.bm=V:=⟨_,rfl⟩
 have hs:=LU r1
 have hb:=Jy (R:=400) (w:=r.1.w.bm) (by omega) r1 r2
 obtain ⟨v1,v2,v3⟩:=vl 400 r1 r2
 have v4 : (dB 400 r.1.w.bm).bm=dB 400 r.1.w.bm:=vj 400 (by simp only [Wrd.bm,List.map_map];rfl)
 rw [hV] at hb v1 v2 v3 v4
 have C0 : mV V:=⟨v1,v2,v4,hb⟩
 refine ai d137 (V.tM ++ [.b true]) rfl ?_ ?_ (G0 (fun hn=>?_) (fun _=>?_))
 ·simp only [nrm,xdn,reduceIte,Nat.reduceLT,Nat.reduceSub,Nat.reduceAdd,Wrd.tM,Mem.cds,lca,d137,fY,aA]
  exact ⟨by rw [iQ];exact r1,by omega⟩
 ·simp only [nrm,xdn,reduceIte,Nat.reduceLT,Nat.reduceSub,Nat.reduceAdd,Wrd.tM,Mem.cds,lca,d137,fY,aA]
  rw [iQ]
  show (dB 400 r.1.w.bm).tM ++ [.b (!eQ (dB 400 r.1.w.bm))]=_
  rw [hV,hb];rfl
 ·simp only [nrm,xdn,reduceIte,Nat.reduceLT,Nat.reduceSub,Nat.reduceAdd,Wrd.tM,Mem.cds,lca] at hn
  simp at hn
 obtain ⟨n,hn⟩ : ∃ n,V.ts.length=n:=⟨_,rfl⟩
 have hn5 : 1≤n∧n≤5:=by rw [← hn];exact v1.lo
 clear hs r0 r1 r2 hr hL0 hA0
 refine bO (fun ds=>∃ (i : Nat) (w : Wrd),ds=[.i i,au w.m.slots,af w.m.heads,af w.m.free,af w.m.ae,.i w.m.now,G2 w.ts,.b true]∧mV w∧w.ts.length=n∧i≤n∧∀ u : Int,0≤u→u < i→(tsk w u).held=[]) (fun ds=>n - (ds.getD 0 .u).int.toNat) ⟨0,V,?_,C0,hn,by omega,fun u u0 u1=>by omega⟩ ?_
 ·simp only [nrm,xdn,reduceIte,Nat.reduceLT,Nat.reduceSub,Nat.reduceAdd,Wrd.tM,Mem.cds,lca];rfl
 rintro ds - ⟨i,w,rfl,hw,hwl,hi,hh⟩
 refine G0 (fun h=>?_) (fun h=>?_)
 ·simp only [nrm,xdn,reduceIte,Nat.reduceLT,Nat.reduceSub,Nat.reduceAdd,Wrd.tM,Mem.cds,lca,cJ] at h
  refine bO (fun ds=>∃ w : Wrd,ds=[au w.m.slots,af w.m.heads,af w.m.free,af w.m.ae,.i w.m.now,G2 w.ts,.b true]∧mV w∧w.ts.length=n∧∀ u : Int,0≤u→u < i→(tsk w u).held=[]) (fun ds=>(((ds.getD 5 .u).rows.getD i []).getD 15 .u).rows.length) ⟨w,?_,hw,hwl,hh⟩ ?_
  ·simp only [nrm,xdn,reduceIte,Nat.reduceLT,Nat.reduceSub,Nat.reduceAdd]
  clear hw hwl hh
  rintro ds - ⟨w,rfl,hw,hwl,hh⟩
  have hcell : ((G2 w.ts).rows.getD i []).getD 15 .u=af (tsk w i).held:=KO (by omega)
  refine ag (by simp only [nrm,xdn,reduceIte,Nat.reduceLT,Nat.reduceSub,Nat.reduceAdd];omega) (ag (by simp only [nrm,xdn,reduceIte,Nat.reduceLT,Nat.reduceSub,Nat.reduceAdd,cJ];omega) (G0 (fun h1=>?_) (fun h1=>?_)))
  ·simp only [nrm,xdn,reduceIte,Nat.reduceLT,Nat.reduceSub,Nat.reduceAdd,Int.toNat_natCast,hcell,aw] at h1
   obtain ⟨a,t,hat⟩ : ∃ a t,(tsk w i).held=a :: t:=by
    cases e : (tsk w i).held with
    | nil=>rw [e] at h1;simp at h1
    | cons a t=>exact ⟨a,t,rfl⟩
   obtain ⟨l1,l2,l3,l4,l5⟩:=Mw hw (k:=i) (by omega) hat
   have hc0 : ((af (tsk w i).held).rows.getD 0 []).getD 0 .u=.i a:=by rw [hat];rfl
   obtain ⟨u,hu⟩ : ∃ u : Wrd,u=⟨w.m,w.ts.modify i (begun ⟨6,⟨0,0⟩,0,0,a⟩)⟩:=⟨_,rfl⟩
   rw [← hu] at l1 l2 l3 l4 l5
   have hui : Inv u:=by
    have hp:=xg hw.inv ⟨i,false,false,⟨6,⟨0,0⟩,0,0,a⟩⟩
    unfold doW at l1
    rw [if_neg (fun y=>y hw.inv.G4.check.1),iQ,hw.bm] at l1
    split at l1
    ·rename_i e
     exact absurd (congrArg Prod.snd l1) e
    ·rw [congrArg Prod.fst l1] at hp;exact hp
   refine ai d140 [au u.m.slots,af u.m.heads,af u.m.free,af u.m.ae,.i u.m.now,az u.ts,.i 0] rfl trivial ?_ (G0 (fun hn=>?_) (fun _=>?_))
   ·simp only [nrm,xdn,reduceIte,Nat.reduceLT,Nat.reduceSub,Nat.reduceAdd,Int.toNat_natCast,Int.toNat_zero,hcell,hc0,d140,fY,aA,List.drop_succ_cons,List.drop_zero,oe,cz]
    show (doW w.G4 ⟨i,false,false,⟨6,⟨0,0⟩,0,0,a⟩⟩).1.cds ++ [.i (doW w.G4 ⟨i,false,false,⟨6,⟨0,0⟩,0,0,a⟩⟩).2]=_
    rw [l1];rfl
   ·skip
    simp only [nrm,xdn,reduceIte,Nat.reduceLT,Nat.reduceSub,Nat.reduceAdd] at hn
    simp at hn
   obtain ⟨Z,hZ⟩ : ∃ Z,dB 100 u=Z:=⟨_,rfl⟩
   rw [hZ] at l3 l4 l5
   refine ag (by simp only [nrm,xdn,reduceIte,Nat.reduceLT,Nat.reduceSub,Nat.reduceAdd];exact aI _) (ai d137 (Z.tM ++ [.b true]) rfl ?_ ?_ (G0 (fun hn=>?_) (fun _=>?_)))
   ·simp only [nrm,xdn,reduceIte,Nat.reduceLT,Nat.reduceSub,Nat.reduceAdd,cg,d137,fY,aA]
    exact ⟨by rw [iQ];exact hui.bm,by omega⟩
   ·simp only [nrm,xdn,reduceIte,Nat.reduceLT,Nat.reduceSub,Nat.reduceAdd,cg,d137,fY,aA]
    rw [iQ]
    show (dB 100 u.bm).tM ++ [.b (!eQ (dB 100 u.bm))]=_
    rw [l2,hZ,l3.idle];rfl
   ·simp only [nrm,xdn,reduceIte,Nat.reduceLT,Nat.reduceSub,Nat.reduceAdd,Wrd.tM,Mem.cds,lca] at hn
    simp at hn
   ·refine aV ⟨⟨Z,?_,l3,l4.trans hwl,fun v v0 v1=>?_⟩,?_⟩
    ·simp only [nrm,xdn,reduceIte,Nat.reduceLT,Nat.reduceSub,Nat.reduceAdd,Wrd.tM,Mem.cds,lca]
    ·rw [l5 v v0 (by omega),if_neg (by omega)];exact hh v v0 v1
    ·have hc2 : ((G2 Z.ts).rows.getD i []).getD 15 .u=af (tsk Z i).held:=KO (by omega)
     have l6:=l5 i (by omega) (by omega)
     rw [if_pos rfl] at l6
     simp only [nrm,xdn,reduceIte,Nat.reduceLT,Nat.reduceSub,Nat.reduceAdd,Wrd.tM,Mem.cds,lca,hcell,hc2,aw,l6,hat]
     omega
  ·simp only [nrm,xdn,reduceIte,Nat.reduceLT,Nat.reduceSub,Nat.reduceAdd,Int.toNat_natCast,hcell,aw] at h1
   have h15 : (tsk w i).held=[]:=List.length_eq_zero_iff.1 (by omega)
   refine G1 (by simp only [nrm,xdn,reduceIte,Nat.reduceLT,Nat.reduceSub,Nat.reduceAdd];omega) (fj (by decide) ⟨⟨i + 1,w,?_,hw,hwl,by omega,fun u u0 u1=>?_⟩,?_⟩)
   ·simp only [nrm,xdn,reduceIte,Nat.reduceLT,Nat.reduceSub,Nat.reduceAdd];rfl
   ·by_cases e : u=i
    ·rw [e];exact h15
    ·exact hh u u0 (by omega)
   ·simp only [nrm,xdn,reduceIte,Nat.reduceLT,Nat.reduceSub,Nat.reduceAdd];omega
 simp only [nrm,xdn,reduceIte,Nat.reduceLT,Nat.reduceSub,Nat.reduceAdd,Wrd.tM,Mem.cds,lca,cJ] at h
 have hin : i=n:=by omega
 subst hin
 have hh : ∀ u : Int,0≤u→u < w.ts.length→(tsk w u).held=[]:=fun u u0 u1=>hh u u0 (by omega)
 have hLl : w.bm.G4=w.G4:=by simp only [Wrd.G4,Wrd.bm,List.map_map];rfl
 obtain ⟨j1,j2⟩:=hw.inv.G4.check
 have hfw : qw w.G4=(aq w.m,0):=by
  unfold qw jM
  rw [if_neg (fun y=>y j1),if_neg (fun y=>y j2)];rfl
 obtain ⟨L,hL⟩ : ∃ L,aq w.m=L:=⟨_,rfl⟩
 have hLlen : L.length≤48:=by rw [← hL];exact pC hw.inv.ch.mem
 refine ai d134 [eM L,.i 0] rfl trivial ?_ (G0 (fun hn=>?_) (fun _=>?_))
 ·simp only [nrm,xdn,reduceIte,Nat.reduceLT,Nat.reduceSub,Nat.reduceAdd,d134,fY,aA]
  rw [show Wrd.G4 ⟨w.m,w.ts⟩=w.G4 from rfl,hfw,hL]
 ·skip
  simp only [nrm,xdn,reduceIte,Nat.reduceLT,Nat.reduceSub,Nat.reduceAdd] at hn
  simp at hn
 refine bO (fun ds=>∃ (j : Nat) (w : Wrd),ds=[.i j,au w.m.slots,af w.m.heads,af w.m.free,af w.m.ae,.i w.m.now,G2 w.ts,.b true]∧mV w∧(∀ u : Int,0≤u→u < w.ts.length→(tsk w u).held=[])∧j≤L.length∧aq w.m=L.drop j) (fun ds=>L.length - (ds.getD 0 .u).int.toNat) ⟨0,w,?_,hw,hh,by omega,hL⟩ ?_
 ·simp only [nrm,xdn,reduceIte,Nat.reduceLT,Nat.reduceSub,Nat.reduceAdd];rfl
 clear hw hh hwl hfw j1 j2 hLl hL
 rintro ds - ⟨j,w,rfl,hw,hh,hj,hL⟩
 refine G0 (fun h1=>?_) (fun h1=>?_)
 ·simp only [nrm,xdn,reduceIte,Nat.reduceLT,Nat.reduceSub,Nat.reduceAdd,iT] at h1
  obtain ⟨fl,hfl⟩ : ∃ fl,L.getD j default=fl:=⟨_,rfl⟩
  have hL2 : aq w.m=fl :: L.drop (j + 1):=by rw [hL,← hfl];exact dL (by omega)
  have c : ∀ o,((eM L).rows.getD j []).getD o .u=fl.row.getD o .u:=fun o=>by rw [← hfl];exact dh cI.row L j o (by omega)
  have d0 : ((eM L).rows.getD j []).getD 0 .u=.i fl.k.a:=c 0
  have d1 : ((eM L).rows.getD j []).getD 1 .u=.i fl.k.b:=c 1
  obtain ⟨l1,l2,l3,l4,l5,l6⟩:=MU hw hL2
  obtain ⟨u,hu⟩ : ∃ u : Wrd,u=⟨w.m,w.ts.modify 0 (begun ⟨3,fl.k,0,0,0⟩)⟩:=⟨_,rfl⟩
  rw [← hu] at l1 l2 l3 l4 l5 l6
  have hui : Inv u:=by
   have hp:=xg hw.inv ⟨0,false,false,⟨3,fl.k,0,0,0⟩⟩
   unfold doW at l1
   rw [if_neg (fun y=>y hw.inv.G4.check.1),iQ,hw.bm] at l1
   split at l1
   ·rename_i e
    exact absurd (congrArg Prod.snd l1) e
   ·rw [congrArg Prod.fst l1] at hp;exact hp
  refine ag (by simp only [nrm,xdn,reduceIte,Nat.reduceLT,Nat.reduceSub,Nat.reduceAdd];omega) (ai d140 [au u.m.slots,af u.m.heads,af u.m.free,af u.m.ae,.i u.m.now,az u.ts,.i 0] rfl trivial ?_ (G0 (fun hn=>?_) (fun _=>?_)))
  ·simp only [nrm,xdn,reduceIte,Nat.reduceLT,Nat.reduceSub,Nat.reduceAdd,Int.toNat_natCast,d0,d1,d140,fY,aA,List.drop_succ_cons,List.drop_zero,oe,cz]
   show (doW w.G4 ⟨0,false,false,⟨3,fl.k,0,0,0⟩⟩).1.cds ++ [.i (doW w.G4 ⟨0,false,false,⟨3,fl.k,0,0,0⟩⟩).2]=_
   rw [l1];rfl
  ·skip
   simp only [nrm,xdn,reduceIte,Nat.reduceLT,Nat.reduceSub,Nat.reduceAdd] at hn
   simp at hn
  obtain ⟨Z,hZ⟩ : ∃ Z,dB 100 u=Z:=⟨_,rfl⟩
  rw [hZ] at l3 l4 l5 l6
  refine ag (by simp only [nrm,xdn,reduceIte,Nat.reduceLT,Nat.reduceSub,Nat.reduceAdd];exact aI _) (ai d137 (Z.tM ++ [.b true]) rfl ?_ ?_ (G0 (fun hn=>?_) (fun _=>?_)))
  ·simp only [nrm,xdn,reduceIte,Nat.reduceLT,Nat.reduceSub,Nat.reduceAdd,cg,d137,fY,aA]
   exact ⟨by rw [iQ];exact hui.bm,by omega⟩
  ·simp only [nrm,xdn,reduceIte,Nat.reduceLT,Nat.reduceSub,Nat.reduceAdd,cg,d137,fY,aA]
   rw [iQ]
   show (dB 100 u.bm).tM ++ [.b (!eQ (dB 100 u.bm))]=_
   rw [l2,hZ,l3.idle];rfl
  ·simp only [nrm,xdn,reduceIte,Nat.reduceLT,Nat.reduceSub,Nat.reduceAdd,Wrd.tM,Mem.cds,lca] at hn
   simp at hn
  ·refine G1 (by simp only [nrm,xdn,reduceIte,Nat.reduceLT,Nat.reduceSub,Nat.reduceAdd];omega) (aV ⟨⟨j + 1,Z,?_,l3,fun v v0 v1=>?_,by omega,l6⟩,?_⟩)
   ·simp only [nrm,xdn,reduceIte,Nat.reduceLT,Nat.reduceSub,Nat.reduceAdd,Wrd.tM,Mem.cds,lca];rfl
   ·rw [l5 v v0 (by omega)];exact hh v v0 (by omega)
   ·simp only [nrm,xdn,reduceIte,Nat.reduceLT,Nat.reduceSub,Nat.reduceAdd];omega
 ·simp only [nrm,xdn,reduceIte,Nat.reduceLT,Nat.reduceSub,Nat.reduceAdd,iT] at h1
  have hjl : j=L.length:=by omega
  have hfree:=M4 hw hh (by rw [hL,hjl];simp)
  refine G0 (fun _=>ai d51 [.i (cP w.m)] rfl trivial (by simp only [nrm,xdn,reduceIte,Nat.reduceLT,Nat.reduceSub,Nat.reduceAdd,d51,mem_of,aA]) (aj ?_)) (fun hn=>?_)
  ·simp only [nrm,xdn,reduceIte,Nat.reduceLT,Nat.reduceSub,Nat.reduceAdd]
   rw [(dT w.m).2 hw.inv.ch.mem];rfl
  ·simp only [nrm,xdn,reduceIte,Nat.reduceLT,Nat.reduceSub,Nat.reduceAdd,aw,aN] at hn
   rw [hfree] at hn
   simp at hn
end Go.Proofs.Ytpmamacjepcdmaa
