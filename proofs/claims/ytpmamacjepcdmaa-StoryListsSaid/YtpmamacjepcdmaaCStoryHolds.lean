import Derived.Test.YtpmamacjepcdmaaCHist4
import Derived.Test.YtpmamacjepcdmaaCWorldLocks
namespace Go.Proofs.Ytpmamacjepcdmaa
open Go Go.Sy Go.RowKit
set_option linter.unusedSimpArgs false
set_option linter.unusedVariables false
theorem Jn : ∀ (l : List Pik) (i : Nat) (s : qE),(w6 l i s).past.length≤s.past.length + l.length
 | [],_,s=>by show s.past.length≤_;simp
 | x :: l,i,s=>by
  have:=Jn l (i + 1) (kH i x s)
  have h1 : (kH i x s).past.length≤s.past.length + 1:=by
   unfold kH
   repeat' split
   all_goals simp
  show (w6 l (i + 1) (kH i x s)).past.length≤_
  simp only [List.length_cons]
  omega
theorem KC (w : Wrd) (l : List Pik) (h : l.length≤300) : (BK w l).1.past.length≤300:=by
 unfold BK
 split
 ·simp
 ·rw [if_neg (by omega)]
  have:=Jn l 0 ⟨w.bm,[],[],List.replicate w.ts.length 0⟩
  simp only [List.length_nil] at this
  show (w6 l 0 _).past.length≤300
  omega
def s12 : Sig:=⟨[.one (.int .i64),.one (.int .i64),.one (.int .i64),.one (.fz kQ)],[.one (.bool)]⟩
def d12 : DC:=⟨s12,fun _=>True,fun _=>[.b true]⟩
def l12 : List (Nat × Ct):=[(78,d78.ct),(79,d79.ct),(80,d80.ct),(81,d81.ct)]
def z12 : Cx:={ T:=ttA,C:=sigs l12,F:=[],hints:=[⟨12,9,false,[(54,.lt)],[],[],[],0,0,false⟩],sig:=s12}
def t12 : Tree :=
 (.call 78 [.var 0,.var 1,.var 2] 4
 (.call 79 [] 11
 (.ite (.not (.var 11))
 (.call 79 [] 12
 (.ret [.var 12]))
 (.ite (.not (.eq (.var 10) (.int 0)))
 (.call 79 [] 12
 (.ret [.var 12]))
 (.need (.le (.int 0) (.min (.len (.var 3)) (.int 300)))
 (.need (.le (.min (.len (.var 3)) (.int 300)) (.len (.var 3)))
 (.need (.clean (.var 9) 15)
 (.call 80 [.var 4,.var 5,.var 6,.var 7,.var 8,.shuts (.var 9) 15,.take (.min (.len (.var 3)) (.int 300)) (.var 3)] 12
 (.ite (.not (.eq (.var 20) (.int 0)))
 (.ret [.bool false])
 (.need (.fit (.sub (.len (.var 19)) (.int 12)))
 (.need (.le (.int 0) (.max (.int 0) (.sub (.len (.var 19)) (.int 12))))
 (.need (.le (.max (.int 0) (.sub (.len (.var 19)) (.int 12))) (.len (.var 19)))
 (.loop 21 [.int .i64] [.int 0]
 (.ite (.lt (.var 22) (.len (.drop (.max (.int 0) (.sub (.len (.var 19)) (.int 12))) (.var 19))))
 (.need (.le (.int 0) (.var 22))
 (.call 81 [.var 4,.var 5,.var 6,.var 7,.var 8,.shuts (.var 9) 15,.take (.min (.len (.var 3)) (.int 300)) (.var 3),.cell (.drop (.max (.int 0) (.sub (.len (.var 19)) (.int 12))) (.var 19)) (.var 22) 0,.cell (.drop (.max (.int 0) (.sub (.len (.var 19)) (.int 12))) (.var 19)) (.var 22) 1,.cell (.drop (.max (.int 0) (.sub (.len (.var 19)) (.int 12))) (.var 19)) (.var 22) 2,.cell (.drop (.max (.int 0) (.sub (.len (.var 19)) (.int 12))) (.var 19)) (.var 22) 3,.cell (.drop (.max (.int 0) (.sub (.len (.var 19)) (.int 12))) (.var 19)) (.var 22) 4,.cell (.drop (.max (.int 0) (.sub (.len (.var 19)) (.int 12))) (.var 19)) (.var 22) 5,.cell (.drop (.max (.int 0) (.sub (.len (.var 19)) (.int 12))) (.var 19)) (.var 22) 6,.cell (.drop (.max (.int 0) (.sub (.len (.var 19)) (.int 12))) (.var 19)) (.var 22) 7,.cell (.drop (.max (.int 0) (.sub (.len (.var 19)) (.int 12))) (.var 19)) (.var 22) 8,.cell (.drop (.max (.int 0) (.sub (.len (.var 19)) (.int 12))) (.var 19)) (.var 22) 9,.cell (.drop (.max (.int 0) (.sub (.len (.var 19)) (.int 12))) (.var 19)) (.var 22) 10,.cell (.drop (.max (.int 0) (.sub (.len (.var 19)) (.int 12))) (.var 19)) (.var 22) 11,.cell (.drop (.max (.int 0) (.sub (.len (.var 19)) (.int 12))) (.var 19)) (.var 22) 12] 23
 (.ite (.not (.eq (.var 24) (.int 0)))
 (.ret [.bool false])
 (.ite (.lt (.var 23) (.cell (.drop (.max (.int 0) (.sub (.len (.var 19)) (.int 12))) (.var 19)) (.var 22) 7))
 (.ret [.bool false])
 (.ite (.lt (.cell (.drop (.max (.int 0) (.sub (.len (.var 19)) (.int 12))) (.var 19)) (.var 22) 8) (.var 23))
 (.ret [.bool false])
 (.need (.fit (.add (.var 22) (.int 1)))
 (.back 21 [.add (.var 22) (.int 1)])))))))
 (.ret [.bool true])))))))))))))))
theorem run12 : run z12 6000 [.code (Try.f12.body.getD .skip),.fin (bt z12 Try.f12.results.toList 50)] { fn:=12,tmps:=z12.sig.aM ++ List.replicate (Try.f12.ntmps - z12.sig.aM.length) (.v (.one .undef)),stk:=[],h:=z12.sig.h0,nx:=z12.sig.ins.length,known:=[]}=t12:=by kernel_rfl
set_option maxHeartbeats 4000000 in
theorem ok12 : cB Try.prog 12 d12.ct:=by
 refine aD (d:=d12) (Z:=z12) (Γ:=gam l12) (fn:=Try.f12) (c:=Try.f12.body.getD .skip) (bg tok mixed (all_cons ok78 (all_cons ok79 (all_cons ok80 (all_cons ok81 all_nil)))) bh) Try.func12 (by kernel_rfl) (by kernel_rfl) rfl run12 fun E hk hp=>?_
 obtain ⟨hk0,hk1,hk2,hk3,_⟩:=hk
 obtain ⟨x,e0⟩:=ok_int (d:=E 0) hk0
 obtain ⟨x2,e1⟩:=ok_int (d:=E 1) hk1
 obtain ⟨x3,e2⟩:=ok_int (d:=E 2) hk2
 obtain ⟨l,e3,b3⟩:=Dc (d:=E 3) hk3
 have b3 : l.length * 64≤140737488355328:=b3
 have el : aH E d12.sig.ins.length=[.i x,.i x2,.i x3,eD l]:=by
  show [E 0,E 1,E 2,E 3]=_
  rw [e0,e1,e2,e3]
 rw [el] at hp
 rw [el]
 rw [Env.bJ el]
 clear el e0 e1 e2 e3
 unfold t12
 obtain ⟨N,hN⟩ : ∃ N,iw x x2 x3=N:=⟨_,rfl⟩
 refine ai d78 [au N.1.m.slots,af N.1.m.heads,af N.1.m.free,af N.1.m.ae,.i N.1.m.now,az N.1.ts,.i N.2] rfl trivial (by simp only [nrm,xdn,reduceIte,Nat.reduceLT,Nat.reduceSub,Nat.reduceAdd,d78,hN];rfl) (ai d79 [.b true] rfl trivial rfl (G0 (fun hn=>?_) (fun _=>G0 (fun _=>ai d79 [.b true] rfl trivial rfl (aj (by simp only [nrm,xdn,reduceIte,Nat.reduceLT,Nat.reduceSub,Nat.reduceAdd];rfl))) (fun h0=>?_))))
 ·skip
  simp only [nrm,xdn,reduceIte,Nat.reduceLT,Nat.reduceSub,Nat.reduceAdd] at hn
  simp at hn
 simp only [nrm,xdn,reduceIte,Nat.reduceLT,Nat.reduceSub,Nat.reduceAdd] at h0
 have h0 : N.2=0:=by simpa using h0
 obtain ⟨mn,hmn⟩ : ∃ mn : Nat,(if (300 : Int) < (l.length : Int) then (300 : Int) else (l.length : Int))=mn∧mn=min l.length 300:=⟨min l.length 300,by split <;> omega,rfl⟩
 obtain ⟨K,hK⟩ : ∃ K,l.take mn=K:=⟨_,rfl⟩
 have hkl : K.length≤300:=by rw [← hK,List.length_take];omega
 obtain ⟨r,hr⟩ : ∃ r,BK N.1.G4 K=r:=⟨_,rfl⟩
 obtain ⟨r0,r1⟩ : r.2=0∧∀ p∈r.1.past,∃ k : Nat,Jh N.1.G4 K p=((k : Int),0)∧p.fr≤k∧(k : Int)≤p.to:=by
  rw [← hr,← hN] at *
  exact Nh h0 hkl
 have htk : CD.l ((eD l).rows.take mn)=eD K:=by rw [← hK];simp only [eD,CD.ax,List.map_take]
 refine ag (by simp only [nrm,xdn,reduceIte,Nat.reduceLT,Nat.reduceSub,Nat.reduceAdd,nc];omega) (ag (by simp only [nrm,xdn,reduceIte,Nat.reduceLT,Nat.reduceSub,Nat.reduceAdd,nc];omega) (ag (by simp only [nrm,xdn,reduceIte,Nat.reduceLT,Nat.reduceSub,Nat.reduceAdd];exact aI _) ?_))
 refine ai d80 (r.1.w.tM ++ [af r.1.said,gl r.1.past,.i r.2]) rfl trivial ?_ ?_
 ·simp only [nrm,xdn,reduceIte,Nat.reduceLT,Nat.reduceSub,Nat.reduceAdd,cg,nc,hmn.1,Int.toNat_natCast]
  rw [htk]
  simp only [d80,fY,List.getD_cons_zero,List.getD_cons_succ,oZ]
  rw [← hr]
 refine G0 (fun hn=>?_) (fun _=>?_)
 ·simp only [nrm,xdn,reduceIte,Nat.reduceLT,Nat.reduceSub,Nat.reduceAdd,Wrd.tM,Mem.cds,lca,r0] at hn
  simp at hn
 obtain ⟨P,hP⟩ : ∃ P,r.1.past=P:=⟨_,rfl⟩
 have hPl : P.length≤300:=by rw [← hP,← hr];exact KC _ _ hkl
 rw [hP] at r1 ⊢
 obtain ⟨lo,hlo,hlo2⟩ : ∃ lo : Nat,(if (0 : Int) < (P.length : Int) - 12 then (P.length : Int) - 12 else 0)=lo∧lo≤P.length:=⟨P.length - 12,by split <;> omega,by omega⟩
 obtain ⟨D,hD⟩ : ∃ D,P.drop lo=D:=⟨_,rfl⟩
 have hDd : CD.l ((gl P).rows.drop lo)=gl D:=by rw [← hD];simp only [gl,CD.ax,List.map_drop]
 have hDin : ∀ p∈D,p∈P:=fun p hp=>by rw [← hD] at hp;exact List.mem_of_mem_drop hp
 have hDl : D.length≤300:=by rw [← hD,List.length_drop];omega
 refine G1 (by simp only [nrm,xdn,reduceIte,Nat.reduceLT,Nat.reduceSub,Nat.reduceAdd,Wrd.tM,Mem.cds,lca,qm];omega) (ag (by simp only [nrm,xdn,reduceIte,Nat.reduceLT,Nat.reduceSub,Nat.reduceAdd,Wrd.tM,Mem.cds,lca,qm,hlo];omega) (ag (by simp only [nrm,xdn,reduceIte,Nat.reduceLT,Nat.reduceSub,Nat.reduceAdd,Wrd.tM,Mem.cds,lca,qm,hlo];omega) ?_))
 refine bO (fun ds=>∃ k : Nat,ds=[.i k]∧k≤D.length) (fun ds=>D.length - (ds.getD 0 .u).int.toNat) ⟨0,rfl,by omega⟩ ?_
 rintro ds - ⟨k,rfl,hk⟩
 refine G0 (fun h=>?_) (fun h=>aj (by simp only [nrm,xdn,reduceIte,Nat.reduceLT,Nat.reduceSub,Nat.reduceAdd];rfl))
 simp only [nrm,xdn,reduceIte,Nat.reduceLT,Nat.reduceSub,Nat.reduceAdd,Wrd.tM,Mem.cds,lca,qm,hlo,Int.toNat_natCast,hDd] at h
 obtain ⟨p,hp⟩ : ∃ p,D.getD k default=p:=⟨_,rfl⟩
 have hpin : p∈P:=hDin p (by rw [← hp];rw [List.getD_eq_getElem?_getD,List.getElem?_eq_getElem (by omega)];exact List.getElem_mem _)
 obtain ⟨j,j1,j2,j3⟩:=r1 p hpin
 have c : ∀ o,((gl D).rows.getD k []).getD o .u=p.row.getD o .u:=fun o=>by rw [← hp];exact dh Pst.row D k o (by omega)
 have c0 : ((gl D).rows.getD k []).getD 0 .u=.i p.task:=c 0
 have c1 : ((gl D).rows.getD k []).getD 1 .u=.i p.c.kind:=c 1
 have c2 : ((gl D).rows.getD k []).getD 2 .u=.i p.c.k.a:=c 2
 have c3 : ((gl D).rows.getD k []).getD 3 .u=.i p.c.k.b:=c 3
 have c4 : ((gl D).rows.getD k []).getD 4 .u=.i p.c.time:=c 4
 have c5 : ((gl D).rows.getD k []).getD 5 .u=.i p.c.bucket:=c 5
 have c6 : ((gl D).rows.getD k []).getD 6 .u=.i p.c.slot:=c 6
 have c7 : ((gl D).rows.getD k []).getD 7 .u=.i p.fr:=c 7
 have c8 : ((gl D).rows.getD k []).getD 8 .u=.i p.to:=c 8
 have c9 : ((gl D).rows.getD k []).getD 9 .u=.i p.e:=c 9
 have c10 : ((gl D).rows.getD k []).getD 10 .u=.i p.slot:=c 10
 have c11 : ((gl D).rows.getD k []).getD 11 .u=.i p.n:=c 11
 have c12 : ((gl D).rows.getD k []).getD 12 .u=bS p.keys:=c 12
 refine ag (by simp only [nrm,xdn,reduceIte,Nat.reduceLT,Nat.reduceSub,Nat.reduceAdd];omega) (ai d81 [.i j,.i 0] rfl trivial ?_ (G0 (fun hn=>?_) (fun _=>G0 (fun hn=>?_) (fun _=>G0 (fun hn=>?_) (fun _=>G1 (by simp only [nrm,xdn,reduceIte,Nat.reduceLT,Nat.reduceSub,Nat.reduceAdd];omega) (aV ⟨⟨k + 1,?_,by omega⟩,?_⟩))))))
 ·simp only [nrm,xdn,reduceIte,Nat.reduceLT,Nat.reduceSub,Nat.reduceAdd,cg,Wrd.tM,Mem.cds,lca,nc,qm,hmn.1,hlo,Int.toNat_natCast,hDd,htk,c0,c1,c2,c3,c4,c5,c6,c7,c8,c9,c10,c11,c12]
  simp only [d81,fY,List.getD_cons_zero,List.getD_cons_succ,oZ,List.drop_succ_cons,List.drop_zero,HT]
  rw [show (⟨N.1.m,N.1.ts⟩ : Wrd).G4=N.1.G4 from rfl,j1]
 ·simp only [nrm,xdn,reduceIte,Nat.reduceLT,Nat.reduceSub,Nat.reduceAdd] at hn
  simp at hn
 ·simp only [nrm,xdn,reduceIte,Nat.reduceLT,Nat.reduceSub,Nat.reduceAdd,Wrd.tM,Mem.cds,lca,qm,hlo,Int.toNat_natCast,hDd,c7] at hn
  omega
 ·simp only [nrm,xdn,reduceIte,Nat.reduceLT,Nat.reduceSub,Nat.reduceAdd,Wrd.tM,Mem.cds,lca,qm,hlo,Int.toNat_natCast,hDd,c8] at hn
  omega
 ·simp only [nrm,xdn,reduceIte,Nat.reduceLT,Nat.reduceSub,Nat.reduceAdd];rfl
 ·simp only [nrm,xdn,reduceIte,Nat.reduceLT,Nat.reduceSub,Nat.reduceAdd];omega
end Go.Proofs.Ytpmamacjepcdmaa
