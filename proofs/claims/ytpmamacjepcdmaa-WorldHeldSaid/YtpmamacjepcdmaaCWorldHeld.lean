import Derived.Test.YtpmamacjepcdmaaCInv7
namespace Go.Proofs.Ytpmamacjepcdmaa
open Go Go.Sy Go.RowKit
set_option linter.unusedSimpArgs false
set_option linter.unusedVariables false
theorem JN {Γ : Gam} {R : List CD→Prop} {E : Env} {J : JJ} {id a b c : Nat} {cur : List X} {Y Ya Yb Yc : List CD→Prop} (h1 : id≠a) (h2 : id≠b) (h3 : id≠c) (h : Y (cur.map (X.den E))) : (Tree.back id cur).den Γ R E ((((J.put id Y).put a Ya).put b Yb).put c Yc):=by
 show ((((J.put id Y).put a Ya).put b Yb).put c Yc).b id _
 simp only [JJ.put,if_neg h1,if_neg h2,if_neg h3,if_true]
 exact h
def tab (n : Nat) (c : Nat→Int) : List Int:=(List.range n).map c
theorem H4 (n : Nat) (c : Nat→Int) : (tab n c).length=n:=by simp [tab]
theorem Jk {n : Nat} {c : Nat→Int} {k : Nat} (h : k < n) : (tab n c).getD k 0=c k:=by
 unfold tab
 rw [List.getD_eq_getElem?_getD,List.getElem?_map,List.getElem?_range h];rfl
theorem JZ {n : Nat} {c d : Nat→Int} {a : Nat} {v : Int} (hv : a < n→v=d a) (h : ∀ k,k < n→k≠a→c k=d k) : (tab n c).set a v=tab n d:=by
 refine List.ext_getElem (by simp [tab]) fun i h1 h2=>?_
 have hi : i < n:=by simpa [tab] using h2
 by_cases e : a=i
 ·subst e
  simp [tab,hv hi]
 ·rw [List.getElem_set_ne e]
  simp [tab,h i hi (fun x=>e x.symm)]
theorem Jl {n : Nat} {c d : Nat→Int} (h : ∀ k,k < n→c k=d k) : tab n c=tab n d:=List.map_congr_left fun k hk=>h k (List.mem_range.1 hk)
theorem JR {m : Mem} {k : Int} : ∀ {n b : Nat} {acc : List cI},((bC m n b acc).map (·.slot)).count k=(acc.map (·.slot)).count k + iX (fun i=>(chL m i).count k) n b
 | 0,b,acc=>rfl
 | n + 1,b,acc=>by
  rw [bC,JR]
  simp only [iX,List.map_append,List.map_map,List.count_append,chL]
  rw [show ((fun x : cI=>x.slot) ∘ bu m)=id from rfl,List.map_id]
  omega
theorem xT (m : Mem) (k : Int) : ((aq m).map (·.slot)).count k=fK m k:=by
 unfold aq fK
 rw [JR];simp
theorem HS {k : Int} : ∀ {l : List Tsk} {j : Nat},j < l.length→iF k (l.take (j + 1))=iF k (l.take j) + fv k (l.getD j default)
 | [],j,h=>by simp at h
 | t :: l,0,_=>by simp [iF]
 | t :: l,j + 1,h=>by
  have:=HS (k:=k) (l:=l) (j:=j) (by simpa using h)
  simp only [List.take_succ_cons,iF,this,List.getD_cons_succ]
  omega
theorem Jj {k : Int} : ∀ {l : List Tsk} {j : Nat},iF k (l.take j)≤iF k l
 | [],j=>by simp
 | t :: l,0=>Af k _
 | t :: l,j + 1=>by
  have:=Jj (k:=k) (l:=l) (j:=j)
  simp only [List.take_succ_cons,iF]
  omega
theorem Ks {k : Int} {l : List Int} {i : Nat} (h : i < l.length) : ((l.take (i + 1)).count k : Int)=((l.take i).count k : Int) + if l.getD i 0=k then 1 else 0:=by
 have e : l.take (i + 1)=l.take i ++ [l.getD i 0]:=by
  rw [List.take_succ_eq_append_getElem h,List.getD_eq_getElem?_getD,List.getElem?_eq_getElem h];rfl
 rw [e,List.count_append,List.count_singleton]
 generalize l.getD i 0=z
 by_cases hk : z=k
 ·rw [if_pos hk];simp [hk]
 ·rw [if_neg hk];simp [hk]
theorem Kt {k : Int} {l : List Int} {i : Nat} : ((l.take i).count k : Int)≤(l.count k : Int):=by
 have:=(List.take_sublist i l).count_le k
 omega
def s29 : Sig:=⟨[.one (.int .i64),.one (.int .i64),.one (.int .i64),.one (.fz kQ)],[.one (.bool)]⟩
def d29 : DC:=⟨s29,fun _=>True,fun _=>[.b true]⟩
def l29 : List (Nat × Ct):=[(79,d79.ct),(78,d78.ct),(140,d140.ct),(134,d134.ct)]
noncomputable def z29 : Cx:={ T:=ttA,C:=sigs l29,F:=[(132,Try.f132),(135,Try.f135)],hints:=[⟨132,5,false,[(32,.lt)],[(0,0,.fz kS),(0,1,.fz kI),(0,2,.fz kI),(0,3,.fz kI),(0,4,.lt),(0,5,.fz kT)],[],[],0,0,false⟩,⟨135,6,false,[(30,.lt),(5,.own 3 kI)],[],[],[],0,0,false⟩,⟨135,11,false,[(45,.lt),(5,.own 3 kI)],[],[],[],0,0,false⟩,⟨135,14,false,[(52,.lt),(5,.own 3 kI)],[],[],[],0,0,false⟩,⟨135,23,false,[(96,.lt)],[],[],[],0,0,false⟩],sig:=s29}
def t29 : Tree :=
 (.call 79 [] 4
 (.ite (.var 4)
 (.call 78 [.var 0,.var 1,.var 2] 5
 (.ite (.not (.eq (.var 11) (.int 0)))
 (.ret [.bool true])
 (.need (.le (.int 0) (.min (.len (.var 3)) (.int 300)))
 (.need (.le (.min (.len (.var 3)) (.int 300)) (.len (.var 3)))
 (.need (.clean (.var 10) 15)
 (.loop 12 [.int .i64,.sl 48 [.int .i64,.int .i64,.int .i64,.int .i64,.bool,.int .i64],.sl 8 [.int .i64],.sl 8 [.int .i64],.sl 8 [.int .i64],.int .i64,.sl 160 [.bool,.int .i64,.int .i64,.int .i64,.int .i64,.int .i64,.int .i64,.int .i64,.int .i64,.int .i64,.int .i64,.int .i64,.sl 16 [.int .i64,.int .i64],.bool,.int .i64,.sl 8 [.int .i64]]] [.int 0,.var 5,.var 6,.var 7,.var 8,.var 9,.shuts (.var 10) 15]
 (.ite (.lt (.var 13) (.len (.take (.min (.len (.var 3)) (.int 300)) (.var 3))))
 (.need (.le (.int 0) (.var 13))
 (.call 140 [.var 14,.var 15,.var 16,.var 17,.var 18,.var 19,.cell (.take (.min (.len (.var 3)) (.int 300)) (.var 3)) (.var 13) 0,.cell (.take (.min (.len (.var 3)) (.int 300)) (.var 3)) (.var 13) 1,.cell (.take (.min (.len (.var 3)) (.int 300)) (.var 3)) (.var 13) 2,.cell (.take (.min (.len (.var 3)) (.int 300)) (.var 3)) (.var 13) 3,.cell (.take (.min (.len (.var 3)) (.int 300)) (.var 3)) (.var 13) 4,.cell (.take (.min (.len (.var 3)) (.int 300)) (.var 3)) (.var 13) 5,.cell (.take (.min (.len (.var 3)) (.int 300)) (.var 3)) (.var 13) 6,.cell (.take (.min (.len (.var 3)) (.int 300)) (.var 3)) (.var 13) 7,.cell (.take (.min (.len (.var 3)) (.int 300)) (.var 3)) (.var 13) 8] 20
 (.ite (.eq (.var 26) (.int 0))
 (.need (.le (.len (.var 20)) (.int 17592186044416))
 (.need (.clean (.var 25) 15)
 (.call 134 [.var 20,.var 21,.var 22,.var 23,.var 24,.shuts (.var 25) 15] 27
 (.ite (.not (.eq (.var 28) (.int 0)))
 (.ret [.bool false])
 (.loop 29 [.sl 8 [.int .i64],.int .i64] [.rep (.len (.var 20)) (.cons (.int 0) .row0),.int 0]
 (.ite (.lt (.var 31) (.len (.var 27)))
 (.need (.le (.int 0) (.var 31))
 (.need (.le (.int 0) (.cell (.var 27) (.var 31) 2))
 (.need (.lt (.cell (.var 27) (.var 31) 2) (.len (.var 30)))
 (.need (.fit (.add (.cell (.var 30) (.cell (.var 27) (.var 31) 2) 0) (.int 1)))
 (.need (.fit (.add (.var 31) (.int 1)))
 (.back 29 [.set (.var 30) (.cell (.var 27) (.var 31) 2) 0 (.add (.cell (.var 30) (.cell (.var 27) (.var 31) 2) 0) (.int 1)),.add (.var 31) (.int 1)]))))))
 (.loop 32 [.sl 8 [.int .i64],.int .i64] [.var 30,.int 0]
 (.ite (.lt (.var 34) (.len (.shuts (.var 25) 15)))
 (.need (.le (.int 0) (.var 34))
 (.loop 35 [.sl 8 [.int .i64],.int .i64] [.var 33,.int 0]
 (.ite (.lt (.var 37) (.len (.cell (.shuts (.var 25) 15) (.var 34) 15)))
 (.need (.le (.int 0) (.var 37))
 (.need (.le (.int 0) (.cell (.cell (.shuts (.var 25) 15) (.var 34) 15) (.var 37) 0))
 (.need (.lt (.cell (.cell (.shuts (.var 25) 15) (.var 34) 15) (.var 37) 0) (.len (.var 36)))
 (.need (.fit (.add (.cell (.var 36) (.cell (.cell (.shuts (.var 25) 15) (.var 34) 15) (.var 37) 0) 0) (.int 1)))
 (.need (.fit (.add (.var 37) (.int 1)))
 (.back 35 [.set (.var 36) (.cell (.cell (.shuts (.var 25) 15) (.var 34) 15) (.var 37) 0) 0 (.add (.cell (.var 36) (.cell (.cell (.shuts (.var 25) 15) (.var 34) 15) (.var 37) 0) 0) (.int 1)),.add (.var 37) (.int 1)]))))))
 (.ite (.not (.cell (.shuts (.var 25) 15) (.var 34) 0))
 (.need (.fit (.add (.var 34) (.int 1)))
 (.back 32 [.var 36,.add (.var 34) (.int 1)]))
 (.ite (.lt (.cell (.shuts (.var 25) 15) (.var 34) 10) (.int 0))
 (.need (.fit (.add (.var 34) (.int 1)))
 (.back 32 [.var 36,.add (.var 34) (.int 1)]))
 (.ite (.eq (.cell (.shuts (.var 25) 15) (.var 34) 1) (.int 2))
 (.ite (.eq (.cell (.shuts (.var 25) 15) (.var 34) 7) (.int 7))
 (.need (.fit (.add (.var 34) (.int 1)))
 (.back 32 [.var 36,.add (.var 34) (.int 1)]))
 (.need (.le (.int 0) (.cell (.shuts (.var 25) 15) (.var 34) 10))
 (.need (.lt (.cell (.shuts (.var 25) 15) (.var 34) 10) (.len (.var 36)))
 (.need (.fit (.add (.cell (.var 36) (.cell (.shuts (.var 25) 15) (.var 34) 10) 0) (.int 1)))
 (.need (.fit (.add (.var 34) (.int 1)))
 (.back 32 [.set (.var 36) (.cell (.shuts (.var 25) 15) (.var 34) 10) 0 (.add (.cell (.var 36) (.cell (.shuts (.var 25) 15) (.var 34) 10) 0) (.int 1)),.add (.var 34) (.int 1)]))))))
 (.need (.le (.int 0) (.cell (.shuts (.var 25) 15) (.var 34) 10))
 (.need (.lt (.cell (.shuts (.var 25) 15) (.var 34) 10) (.len (.var 36)))
 (.need (.fit (.add (.cell (.var 36) (.cell (.shuts (.var 25) 15) (.var 34) 10) 0) (.int 1)))
 (.need (.fit (.add (.var 34) (.int 1)))
 (.back 32 [.set (.var 36) (.cell (.shuts (.var 25) 15) (.var 34) 10) 0 (.add (.cell (.var 36) (.cell (.shuts (.var 25) 15) (.var 34) 10) 0) (.int 1)),.add (.var 34) (.int 1)])))))))))))
 (.loop 35 [.int .i64] [.int 0]
 (.ite (.lt (.var 36) (.len (.var 20)))
 (.need (.le (.int 0) (.var 36))
 (.need (.lt (.var 36) (.len (.var 33)))
 (.ite (.not (.eq (.cell (.var 20) (.var 36) 0) (.cell (.var 33) (.var 36) 0)))
 (.ret [.bool false])
 (.need (.fit (.add (.var 36) (.int 1)))
 (.back 35 [.add (.var 36) (.int 1)])))))
 (.need (.fit (.add (.var 13) (.int 1)))
 (.back 12 [.add (.var 13) (.int 1),.var 20,.var 21,.var 22,.var 23,.var 24,.shuts (.var 25) 15]))))))))))))
 (.need (.fit (.add (.var 13) (.int 1)))
 (.need (.clean (.var 25) 15)
 (.back 12 [.add (.var 13) (.int 1),.var 14,.var 15,.var 16,.var 17,.var 18,.var 19]))))))
 (.ret [.bool true]))))))))
 (.ret [.bool false])))
theorem run29 : run z29 6000 [.code (Try.f29.body.getD .skip),.fin (bt z29 Try.f29.results.toList 50)] { fn:=29,tmps:=z29.sig.aM ++ List.replicate (Try.f29.ntmps - z29.sig.aM.length) (.v (.one .undef)),stk:=[],h:=z29.sig.h0,nx:=z29.sig.ins.length,known:=[]}=t29:=by kernel_rfl
set_option maxHeartbeats 4000000 in
theorem ok29 : cB Try.prog 29 d29.ct:=by
 refine aD (d:=d29) (Z:=z29) (Γ:=gam l29) (fn:=Try.f29) (c:=Try.f29.body.getD .skip) (bg tok mixed (all_cons ok79 (all_cons ok78 (all_cons ok140 (all_cons ok134 all_nil)))) (dX (c:=Try.f132.body.getD .skip) Try.func132 (by kernel_rfl) (by kernel_rfl) (dX (c:=Try.f135.body.getD .skip) Try.func135 (by kernel_rfl) (by kernel_rfl) bh))) Try.func29 (by kernel_rfl) (by kernel_rfl) rfl run29 fun E hk hp=>?_
 obtain ⟨hk0,hk1,hk2,hk3,_⟩:=hk
 obtain ⟨x,e0⟩:=ok_int (d:=E 0) hk0
 obtain ⟨x2,e1⟩:=ok_int (d:=E 1) hk1
 obtain ⟨x3,e2⟩:=ok_int (d:=E 2) hk2
 obtain ⟨l,e3,b3⟩:=Dc (d:=E 3) hk3
 have b3 : l.length * 64≤140737488355328:=b3
 have el : aH E d29.sig.ins.length=[.i x,.i x2,.i x3,eD l]:=by
  show [E 0,E 1,E 2,E 3]=_
  rw [e0,e1,e2,e3]
 rw [el] at hp
 rw [el]
 rw [Env.bJ el]
 clear el e0 e1 e2 e3
 unfold t29
 refine ai d79 [.b true] rfl trivial rfl (G0 (fun _=>?_) (fun hn=>?_))
 rotate_left
 ·skip
  simp only [nrm,xdn,reduceIte,Nat.reduceLT,Nat.reduceSub,Nat.reduceAdd] at hn
  simp at hn
 obtain ⟨N,hN⟩ : ∃ N,iw x x2 x3=N:=⟨_,rfl⟩
 refine ai d78 [au N.1.m.slots,af N.1.m.heads,af N.1.m.free,af N.1.m.ae,.i N.1.m.now,az N.1.ts,.i N.2] rfl trivial (by simp only [nrm,xdn,reduceIte,Nat.reduceLT,Nat.reduceSub,Nat.reduceAdd,d78,hN];rfl) (G0 (fun _=>aj (by simp only [nrm,xdn,reduceIte,Nat.reduceLT,Nat.reduceSub,Nat.reduceAdd];rfl)) (fun h0=>?_))
 simp only [nrm,xdn,reduceIte,Nat.reduceLT,Nat.reduceSub,Nat.reduceAdd] at h0
 have h0 : N.2=0:=by simpa using h0
 have hL0 : Inv N.1:=by rw [← hN] at h0 ⊢;exact ES h0
 refine ag (by simp only [nrm,xdn,reduceIte,Nat.reduceLT,Nat.reduceSub,Nat.reduceAdd,nc];omega) (ag (by simp only [nrm,xdn,reduceIte,Nat.reduceLT,Nat.reduceSub,Nat.reduceAdd,nc];omega) (ag (by simp only [nrm,xdn,reduceIte,Nat.reduceLT,Nat.reduceSub,Nat.reduceAdd];exact aI _) ?_))
 refine bO (fun ds=>∃ (i : Nat) (w : Wrd),ds=[.i i,au w.m.slots,af w.m.heads,af w.m.free,af w.m.ae,.i w.m.now,G2 w.ts]∧Inv w.bm) (fun ds=>(min l.length 300) - (ds.getD 0 .u).int.toNat) ⟨0,N.1,?_,hL0.bm⟩ ?_
 ·simp only [nrm,xdn,reduceIte,Nat.reduceLT,Nat.reduceSub,Nat.reduceAdd,cg];rfl
 rintro ds - ⟨i,w,rfl,hL⟩
 obtain ⟨mn,hmn⟩ : ∃ mn : Nat,(if (300 : Int) < (l.length : Int) then (300 : Int) else (l.length : Int))=mn∧mn=min l.length 300:=⟨min l.length 300,by split <;> omega,rfl⟩
 refine G0 (fun hlt=>?_) (fun _=>aj (by simp only [nrm,xdn,reduceIte,Nat.reduceLT,Nat.reduceSub,Nat.reduceAdd];rfl))
 simp only [nrm,xdn,reduceIte,Nat.reduceLT,Nat.reduceSub,Nat.reduceAdd,nc,hmn.1,Int.toNat_natCast,List.length_take] at hlt
 obtain ⟨q,hq⟩ : ∃ q,l.getD i default=q:=⟨_,rfl⟩
 have hcell : ∀ o,(((eD l).rows.take mn).getD i []).getD o .u=q.row.getD o .u:=fun o=>by
  have ht : ((eD l).rows.take mn).getD i []=(eD l).rows.getD i []:=by
   rw [List.getD_eq_getElem?_getD (l:=(eD l).rows.take mn),List.getElem?_take,if_pos (by omega),← List.getD_eq_getElem?_getD]
  rw [← hq,ht]
  exact dh Pik.row l i o (by omega)
 have c0 : (((eD l).rows.take mn).getD i []).getD 0 .u=.i q.task:=hcell 0
 have c1 : (((eD l).rows.take mn).getD i []).getD 1 .u=.b q.step:=hcell 1
 have c2 : (((eD l).rows.take mn).getD i []).getD 2 .u=.b q.tick:=hcell 2
 have c3 : (((eD l).rows.take mn).getD i []).getD 3 .u=.i q.c.kind:=hcell 3
 have c4 : (((eD l).rows.take mn).getD i []).getD 4 .u=.i q.c.k.a:=hcell 4
 have c5 : (((eD l).rows.take mn).getD i []).getD 5 .u=.i q.c.k.b:=hcell 5
 have c6 : (((eD l).rows.take mn).getD i []).getD 6 .u=.i q.c.time:=hcell 6
 have c7 : (((eD l).rows.take mn).getD i []).getD 7 .u=.i q.c.bucket:=hcell 7
 have c8 : (((eD l).rows.take mn).getD i []).getD 8 .u=.i q.c.slot:=hcell 8
 obtain ⟨v,hv⟩ : ∃ v,doW w.G4 q=v:=⟨_,rfl⟩
 refine ag (by simp only [nrm,xdn,reduceIte,Nat.reduceLT,Nat.reduceSub,Nat.reduceAdd];omega) (ai d140 [au v.1.m.slots,af v.1.m.heads,af v.1.m.free,af v.1.m.ae,.i v.1.m.now,az v.1.ts,.i v.2] rfl trivial ?_ (G0 (fun h1=>?_) (fun _=>?_)))
 ·simp only [nrm,xdn,reduceIte,Nat.reduceLT,Nat.reduceSub,Nat.reduceAdd,nc,hmn.1,Int.toNat_natCast,c0,c1,c2,c3,c4,c5,c6,c7,c8,d140,fY,aA,List.drop_succ_cons,List.drop_zero,oe,cz]
  rw [← hv];rfl
 rotate_left
 ·refine G1 (by simp only [nrm,xdn,reduceIte,Nat.reduceLT,Nat.reduceSub,Nat.reduceAdd];omega) (ag (by simp only [nrm,xdn,reduceIte,Nat.reduceLT,Nat.reduceSub,Nat.reduceAdd];exact aI _) (aV ⟨⟨i + 1,w,?_,hL⟩,?_⟩))
  ·simp only [nrm,xdn,reduceIte,Nat.reduceLT,Nat.reduceSub,Nat.reduceAdd];rfl
  ·simp only [nrm,xdn,reduceIte,Nat.reduceLT,Nat.reduceSub,Nat.reduceAdd];omega
 simp only [nrm,xdn,reduceIte,Nat.reduceLT,Nat.reduceSub,Nat.reduceAdd] at h1
 have h1 : v.2=0:=by simpa using h1
 have hw : v.1=(bN w.bm q).1:=by
  rw [← hv] at h1 ⊢
  unfold doW at h1 ⊢
  split at h1
  ·rename_i h2;exact absurd h1 h2
  ·rename_i h2
   rw [if_neg h2]
   rw [iQ] at h1 ⊢
   split at h1
   ·rename_i h3;exact absurd h1 h3
   ·rename_i h3
    rw [if_neg h3]
 have hV : Inv v.1:=by rw [hw];exact xg hL q
 obtain ⟨k1,k2⟩:=hV.G4.check
 have hfl : qw v.1.G4=(aq v.1.m,0):=by
  unfold qw jM
  rw [if_neg (fun y=>y k1),if_neg (fun y=>y k2)];rfl
 have hns:=hV.ch.mem.ns
 obtain ⟨n,hn⟩ : ∃ n,v.1.m.slots.length=n:=⟨_,rfl⟩
 have hlo:=hV.lo
 have hbound : ∀ k,k < n→(fK v.1.m k : Int) + iF k v.1.ts≤1000:=fun k hk=>by
  have h1:=hV.rf k (by omega)
  have h2:=(hV.ch.mem.sl (i:=k) (by omega)).r1
  omega
 obtain ⟨F,hF⟩ : ∃ F,aq v.1.m=F:=⟨_,rfl⟩
 have hFc : ∀ k : Nat,((F.map (·.slot)).count (k : Int) : Int)=fK v.1.m k:=fun k=>by rw [← hF,xT]
 have hFs : ∀ f∈F,0≤f.slot∧f.slot < n:=fun f hf=>by
  have:=jj hV.ch (f:=f) (by rw [hF];exact hf)
  exact ⟨this.1,by have:=this.2.1;omega⟩
 have hFl : F.length≤48:=by rw [← hF];exact pC hV.ch.mem
 refine ag (by simp only [nrm,xdn,reduceIte,Nat.reduceLT,Nat.reduceSub,Nat.reduceAdd,aN];omega) (ag (by simp only [nrm,xdn,reduceIte,Nat.reduceLT,Nat.reduceSub,Nat.reduceAdd];exact aI _) (ai d134 [eM F,.i 0] rfl trivial ?_ (G0 (fun hn=>?_) (fun _=>?_))))
 ·simp only [nrm,xdn,reduceIte,Nat.reduceLT,Nat.reduceSub,Nat.reduceAdd,cg,d134,fY,aA]
  rw [show Wrd.G4 ⟨v.1.m,v.1.ts⟩=v.1.G4 from rfl,hfl,hF]
 ·skip
  simp only [nrm,xdn,reduceIte,Nat.reduceLT,Nat.reduceSub,Nat.reduceAdd] at hn
  simp at hn
 refine bO (fun ds=>∃ j : Nat,ds=[af (tab n (fun k=>(((F.map (·.slot)).take j).count (k : Int) : Int))),.i j]∧j≤F.length) (fun ds=>F.length - (ds.getD 1 .u).int.toNat) ⟨0,?_,by omega⟩ ?_
 ·simp only [nrm,xdn,reduceIte,Nat.reduceLT,Nat.reduceSub,Nat.reduceAdd,aN,Int.toNat_natCast,CD.row,List.headD_cons,hn]
  have : CD.l (List.replicate n [CD.i 0])=af (tab n (fun _=>0)):=by
   simp only [af,tab,List.map_map]
   rw [show ((fun k : Int=>[CD.i k]) ∘ fun _ : Nat=>(0 : Int))=fun _=>[CD.i 0] from rfl,List.map_const',List.length_range]
  rw [this]
  simp
 rintro ds - ⟨j,rfl,hj⟩
 refine G0 (fun h2=>?_) (fun h2=>?_)
 ·simp only [nrm,xdn,reduceIte,Nat.reduceLT,Nat.reduceSub,Nat.reduceAdd,iT] at h2
  obtain ⟨f,hf⟩ : ∃ f,F.getD j default=f:=⟨_,rfl⟩
  have hfin : f∈F:=by rw [← hf];exact He (by omega)
  obtain ⟨f0,f1⟩:=hFs f hfin
  obtain ⟨a,ha⟩ : ∃ a : Nat,f.slot=a:=⟨f.slot.toNat,by omega⟩
  have han : a < n:=by omega
  have ec : ((eM F).rows.getD j []).getD 2 .u=.i (a : Int):=by
   have : ((eM F).rows.getD j []).getD 2 .u=.i (F.getD j default).slot:=dh cI.row F j 2 (by omega)
   rw [this,hf,ha]
  have hsj : (F.map (·.slot)).getD j 0=a:=by
   rw [List.getD_eq_getElem?_getD,List.getElem?_map,← ha,← hf,List.getD_eq_getElem?_getD,List.getElem?_eq_getElem (by omega)];rfl
  have ea : ((af (tab n (fun k=>(((F.map (·.slot)).take j).count (k : Int) : Int)))).rows.getD a []).getD 0 .u=.i (((F.map (·.slot)).take j).count (a : Int) : Int):=by rw [← Jk (c:=fun k=>(((F.map (·.slot)).take j).count (k : Int) : Int)) han];exact iK (by rw [H4];omega)
  have hct : ∀ k : Int,(((F.map (·.slot)).take (j + 1)).count k : Int)=(((F.map (·.slot)).take j).count k : Int) + if (a : Int)=k then 1 else 0:=fun k=>by rw [Ks (by simpa using (show j < F.length by omega)),hsj]
  have etab : (tab n (fun k=>(((F.map (·.slot)).take j).count (k : Int) : Int))).set a ((((F.map (·.slot)).take j).count (a : Int) : Int) + 1)=tab n (fun k=>(((F.map (·.slot)).take (j + 1)).count (k : Int) : Int)) :=
   JZ (fun _=>by show _=(((F.map (·.slot)).take (j + 1)).count (a : Int) : Int);rw [hct,if_pos rfl]) fun k hk hne=>by
    show _=(((F.map (·.slot)).take (j + 1)).count (k : Int) : Int)
    rw [hct,if_neg (by omega)];omega
  have hb1:=hbound a han
  have hb2:=Kt (k:=(a : Int)) (l:=F.map (·.slot)) (i:=j + 1)
  rw [hFc,hct,if_pos rfl] at hb2
  have hb3:=Af (a : Int) v.1.ts
  refine ag (by simp only [nrm,xdn,reduceIte,Nat.reduceLT,Nat.reduceSub,Nat.reduceAdd];omega) (ag (by simp only [nrm,xdn,reduceIte,Nat.reduceLT,Nat.reduceSub,Nat.reduceAdd,Int.toNat_natCast,ec];omega) (ag (by simp only [nrm,xdn,reduceIte,Nat.reduceLT,Nat.reduceSub,Nat.reduceAdd,Int.toNat_natCast,ec,aw,H4];omega) (G1 (by simp only [nrm,xdn,reduceIte,Nat.reduceLT,Nat.reduceSub,Nat.reduceAdd,Int.toNat_natCast,ec,ea];omega) (G1 (by simp only [nrm,xdn,reduceIte,Nat.reduceLT,Nat.reduceSub,Nat.reduceAdd];omega) (aV ⟨⟨j + 1,?_,by omega⟩,?_⟩)))))
  ·simp only [nrm,xdn,reduceIte,Nat.reduceLT,Nat.reduceSub,Nat.reduceAdd,Int.toNat_natCast,ec,ea,iG,etab];rfl
  ·simp only [nrm,xdn,reduceIte,Nat.reduceLT,Nat.reduceSub,Nat.reduceAdd];omega
 simp only [nrm,xdn,reduceIte,Nat.reduceLT,Nat.reduceSub,Nat.reduceAdd,iT] at h2
 have htake : tab n (fun k=>(((F.map (·.slot)).take j).count (k : Int) : Int))=tab n (fun k=>(fK v.1.m k : Int) + iF k (v.1.ts.take 0)):=Jl fun k _=>by
  rw [List.take_of_length_le (by simp;omega),hFc]
  show (fK v.1.m k : Int)=(fK v.1.m k : Int) + 0
  omega
 rw [htake]
 refine bO (fun ds=>∃ j : Nat,ds=[af (tab n (fun k=>(fK v.1.m k : Int) + iF k (v.1.ts.take j))),.i j]∧j≤v.1.ts.length) (fun ds=>v.1.ts.length - (ds.getD 1 .u).int.toNat) ⟨0,?_,by omega⟩ ?_
 ·simp only [nrm,xdn,reduceIte,Nat.reduceLT,Nat.reduceSub,Nat.reduceAdd];rfl
 rintro ds - ⟨j,rfl,hj⟩
 refine G0 (fun h3=>?_) (fun h3=>?_)
 ·simp only [nrm,xdn,reduceIte,Nat.reduceLT,Nat.reduceSub,Nat.reduceAdd,cg,cJ] at h3
  obtain ⟨t,ht⟩ : ∃ t,v.1.ts.getD j default=t:=⟨_,rfl⟩
  have htin : t∈v.1.ts:=by rw [← ht];exact fc (by omega)
  have hhd:=hV.hd t htin
  have e0 : ((G2 v.1.ts).rows.getD j []).getD 0 .u=.b t.busy:=by rw [iB 0 (by omega),ht];rfl
  have e1 : ((G2 v.1.ts).rows.getD j []).getD 1 .u=.i t.f.c.kind:=by rw [iB 1 (by omega),ht];rfl
  have e7 : ((G2 v.1.ts).rows.getD j []).getD 7 .u=.i t.f.pc:=by rw [iB 7 (by omega),ht];rfl
  have e10 : ((G2 v.1.ts).rows.getD j []).getD 10 .u=.i t.f.slot:=by rw [iB 10 (by omega),ht];rfl
  have e15 : ((G2 v.1.ts).rows.getD j []).getD 15 .u=af t.held:=by rw [iB 15 (by omega),ht];rfl
  refine ag (by simp only [nrm,xdn,reduceIte,Nat.reduceLT,Nat.reduceSub,Nat.reduceAdd];omega) (bO (fun ds=>∃ i : Nat,ds=[af (tab n (fun k=>(fK v.1.m k : Int) + iF k (v.1.ts.take j) + ((t.held.take i).count (k : Int) : Int))),.i i]∧i≤t.held.length) (fun ds=>t.held.length - (ds.getD 1 .u).int.toNat) ⟨0,?_,by omega⟩ ?_)
  ·simp only [nrm,xdn,reduceIte,Nat.reduceLT,Nat.reduceSub,Nat.reduceAdd]
   rw [show tab n (fun k=>(fK v.1.m k : Int) + iF k (v.1.ts.take j) + ((t.held.take 0).count (k : Int) : Int))=tab n (fun k=>(fK v.1.m k : Int) + iF k (v.1.ts.take j)) from Jl fun k _=>by simp]
   rfl
  rintro ds - ⟨i2,rfl,hi2⟩
  refine G0 (fun h4=>?_) (fun h4=>?_)
  ·simp only [nrm,xdn,reduceIte,Nat.reduceLT,Nat.reduceSub,Nat.reduceAdd,cg,Int.toNat_natCast,e15,aw] at h4
   have hin : t.held.getD i2 0∈t.held:=by
    rw [List.getD_eq_getElem?_getD,List.getElem?_eq_getElem (by omega)]
    exact List.getElem_mem _
   obtain ⟨a0,a1⟩:=hhd.2.2 _ hin
   obtain ⟨a,ha⟩ : ∃ a : Nat,t.held.getD i2 0=a:=⟨(t.held.getD i2 0).toNat,by omega⟩
   have han : a < n:=by omega
   have ec : ((af t.held).rows.getD i2 []).getD 0 .u=.i (a : Int):=by rw [← ha];exact iK (by omega)
   have hct : ∀ k : Int,((t.held.take (i2 + 1)).count k : Int)=((t.held.take i2).count k : Int) + if (a : Int)=k then 1 else 0:=fun k=>by rw [Ks (by omega),ha]
   have ea : ((af (tab n (fun k=>(fK v.1.m k : Int) + iF k (v.1.ts.take j) + ((t.held.take i2).count (k : Int) : Int)))).rows.getD a []).getD 0 .u=.i ((fK v.1.m a : Int) + iF a (v.1.ts.take j) + ((t.held.take i2).count (a : Int) : Int)):=by rw [← Jk (c:=fun k=>(fK v.1.m k : Int) + iF k (v.1.ts.take j) + ((t.held.take i2).count (k : Int) : Int)) han];exact iK (by rw [H4];omega)
   have etab : (tab n (fun k=>(fK v.1.m k : Int) + iF k (v.1.ts.take j) + ((t.held.take i2).count (k : Int) : Int))).set a ((fK v.1.m a : Int) + iF a (v.1.ts.take j) + ((t.held.take i2).count (a : Int) : Int) + 1)=tab n (fun k=>(fK v.1.m k : Int) + iF k (v.1.ts.take j) + ((t.held.take (i2 + 1)).count (k : Int) : Int)) :=
    JZ (fun _=>by show _=(fK v.1.m a : Int) + iF a (v.1.ts.take j) + ((t.held.take (i2 + 1)).count (a : Int) : Int);rw [hct,if_pos rfl];omega) fun k hk hne=>by
     show _=(fK v.1.m k : Int) + iF k (v.1.ts.take j) + ((t.held.take (i2 + 1)).count (k : Int) : Int)
     rw [hct,if_neg (by omega)];omega
   have hb1:=hbound a han
   have hb2:=Kt (k:=(a : Int)) (l:=t.held) (i:=i2 + 1)
   rw [hct,if_pos rfl] at hb2
   have hb3:=HS (k:=(a : Int)) (l:=v.1.ts) (j:=j) (by omega)
   rw [show v.1.ts.getD j default=t from ht] at hb3
   have hb4:=Jj (k:=(a : Int)) (l:=v.1.ts) (j:=j + 1)
   have hb6:=Af (a : Int) (v.1.ts.take j)
   have hb7:=hhd.1
   have hb5 : (t.held.count (a : Int) : Int)≤fv (a : Int) t:=by unfold fv;split <;> omega
   refine ag (by simp only [nrm,xdn,reduceIte,Nat.reduceLT,Nat.reduceSub,Nat.reduceAdd];omega) (ag (by simp only [nrm,xdn,reduceIte,Nat.reduceLT,Nat.reduceSub,Nat.reduceAdd,cg,Int.toNat_natCast,e15,ec];omega) (ag (by simp only [nrm,xdn,reduceIte,Nat.reduceLT,Nat.reduceSub,Nat.reduceAdd,cg,Int.toNat_natCast,e15,ec,aw,H4];omega) (G1 (by simp only [nrm,xdn,reduceIte,Nat.reduceLT,Nat.reduceSub,Nat.reduceAdd,cg,Int.toNat_natCast,e15,ec,ea];omega) (G1 (by simp only [nrm,xdn,reduceIte,Nat.reduceLT,Nat.reduceSub,Nat.reduceAdd];omega) (aV ⟨⟨i2 + 1,?_,by omega⟩,?_⟩)))))
   ·simp only [nrm,xdn,reduceIte,Nat.reduceLT,Nat.reduceSub,Nat.reduceAdd,cg,Int.toNat_natCast,e15,ec,ea,iG,etab];rfl
   ·simp only [nrm,xdn,reduceIte,Nat.reduceLT,Nat.reduceSub,Nat.reduceAdd];omega
  simp only [nrm,xdn,reduceIte,Nat.reduceLT,Nat.reduceSub,Nat.reduceAdd,cg,Int.toNat_natCast,e15,aw] at h4
  rw [show t.held.take i2=t.held from List.take_of_length_le (by omega)]
  refine G0 (fun h5=>?_) (fun h5=>?_)
  ·simp only [nrm,xdn,reduceIte,Nat.reduceLT,Nat.reduceSub,Nat.reduceAdd,cg,Int.toNat_natCast,e0,Bool.not_eq_true'] at h5
   have hho : cr t=-1:=if_neg fun p=>by rw [h5] at p;exact Bool.false_ne_true p.1
   have etab : tab n (fun k=>(fK v.1.m k : Int) + iF k (v.1.ts.take j) + (t.held.count (k : Int) : Int))=tab n (fun k=>(fK v.1.m k : Int) + iF k (v.1.ts.take (j + 1))):=Jl fun k hk=>by
    have:=HS (k:=(k : Int)) (l:=v.1.ts) (j:=j) (by omega)
    rw [show v.1.ts.getD j default=t from ht] at this
    have h1 : fv (k : Int) t=(t.held.count (k : Int) : Int):=by unfold fv;rw [if_neg (by omega)];omega
    show _=(fK v.1.m k : Int) + iF k (v.1.ts.take (j + 1))
    omega
   refine G1 (by simp only [nrm,xdn,reduceIte,Nat.reduceLT,Nat.reduceSub,Nat.reduceAdd];omega) (fj (by decide) ⟨⟨j + 1,?_,by omega⟩,?_⟩)
   ·simp only [nrm,xdn,reduceIte,Nat.reduceLT,Nat.reduceSub,Nat.reduceAdd,etab];rfl
   ·simp only [nrm,xdn,reduceIte,Nat.reduceLT,Nat.reduceSub,Nat.reduceAdd];omega
  simp only [nrm,xdn,reduceIte,Nat.reduceLT,Nat.reduceSub,Nat.reduceAdd,cg,Int.toNat_natCast,e0,Bool.not_eq_false'] at h5
  have hbu : t.busy=true:=h5
  refine G0 (fun h6=>?_) (fun h6=>?_)
  ·simp only [nrm,xdn,reduceIte,Nat.reduceLT,Nat.reduceSub,Nat.reduceAdd,cg,Int.toNat_natCast,e10] at h6
   have hho : cr t < 0:=by unfold cr;split <;> omega
   have etab : tab n (fun k=>(fK v.1.m k : Int) + iF k (v.1.ts.take j) + (t.held.count (k : Int) : Int))=tab n (fun k=>(fK v.1.m k : Int) + iF k (v.1.ts.take (j + 1))):=Jl fun k hk=>by
    have:=HS (k:=(k : Int)) (l:=v.1.ts) (j:=j) (by omega)
    rw [show v.1.ts.getD j default=t from ht] at this
    have h1 : fv (k : Int) t=(t.held.count (k : Int) : Int):=by unfold fv;rw [if_neg (by omega)];omega
    show _=(fK v.1.m k : Int) + iF k (v.1.ts.take (j + 1))
    omega
   refine G1 (by simp only [nrm,xdn,reduceIte,Nat.reduceLT,Nat.reduceSub,Nat.reduceAdd];omega) (fj (by decide) ⟨⟨j + 1,?_,by omega⟩,?_⟩)
   ·simp only [nrm,xdn,reduceIte,Nat.reduceLT,Nat.reduceSub,Nat.reduceAdd,etab];rfl
   ·simp only [nrm,xdn,reduceIte,Nat.reduceLT,Nat.reduceSub,Nat.reduceAdd];omega
  simp only [nrm,xdn,reduceIte,Nat.reduceLT,Nat.reduceSub,Nat.reduceAdd,cg,Int.toNat_natCast,e10] at h6
  refine G0 (fun h7=>?_) (fun h7=>?_)
  ·simp only [nrm,xdn,reduceIte,Nat.reduceLT,Nat.reduceSub,Nat.reduceAdd,cg,Int.toNat_natCast,e1] at h7
   refine G0 (fun h8=>?_) (fun h8=>?_)
   ·simp only [nrm,xdn,reduceIte,Nat.reduceLT,Nat.reduceSub,Nat.reduceAdd,cg,Int.toNat_natCast,e7] at h8
    have hho : cr t=-1:=if_neg fun p=>p.2 ⟨h7,h8⟩
    have etab : tab n (fun k=>(fK v.1.m k : Int) + iF k (v.1.ts.take j) + (t.held.count (k : Int) : Int))=tab n (fun k=>(fK v.1.m k : Int) + iF k (v.1.ts.take (j + 1))):=Jl fun k hk=>by
     have:=HS (k:=(k : Int)) (l:=v.1.ts) (j:=j) (by omega)
     rw [show v.1.ts.getD j default=t from ht] at this
     have h1 : fv (k : Int) t=(t.held.count (k : Int) : Int):=by unfold fv;rw [if_neg (by omega)];omega
     show _=(fK v.1.m k : Int) + iF k (v.1.ts.take (j + 1))
     omega
    refine G1 (by simp only [nrm,xdn,reduceIte,Nat.reduceLT,Nat.reduceSub,Nat.reduceAdd];omega) (fj (by decide) ⟨⟨j + 1,?_,by omega⟩,?_⟩)
    ·simp only [nrm,xdn,reduceIte,Nat.reduceLT,Nat.reduceSub,Nat.reduceAdd,etab];rfl
    ·simp only [nrm,xdn,reduceIte,Nat.reduceLT,Nat.reduceSub,Nat.reduceAdd];omega
   ·simp only [nrm,xdn,reduceIte,Nat.reduceLT,Nat.reduceSub,Nat.reduceAdd,cg,Int.toNat_natCast,e7] at h8
    have hn7 : ¬ (t.f.c.kind=2∧t.f.pc=7):=fun p=>h8 p.2
    have hsl : 0≤t.f.slot:=by omega
    have hho : cr t=t.f.slot:=by unfold cr;rw [if_pos ⟨hbu,hn7⟩]
    have hfo:=hV.fo t htin hbu
    have hs1:=hfo.slot1
    obtain ⟨a,ha⟩ : ∃ a : Nat,t.f.slot=a:=⟨t.f.slot.toNat,by omega⟩
    have han : a < n:=by omega
    have htt:=HS (k:=(a : Int)) (l:=v.1.ts) (j:=j) (by omega)
    have htp:=Jj (k:=(a : Int)) (l:=v.1.ts) (j:=j + 1)
    rw [show v.1.ts.getD j default=t from ht] at htt
    have hone : fv (a : Int) t=(t.held.count (a : Int) : Int) + 1:=by rw [cu hho,if_pos ha]
    have hb1:=hbound a han
    have hb6:=Af (a : Int) (v.1.ts.take j)
    have ea : ((af (tab n (fun k=>(fK v.1.m k : Int) + iF k (v.1.ts.take j) + (t.held.count (k : Int) : Int)))).rows.getD a []).getD 0 .u=.i ((fK v.1.m a : Int) + iF a (v.1.ts.take j) + (t.held.count (a : Int) : Int)):=by rw [← Jk (c:=fun k=>(fK v.1.m k : Int) + iF k (v.1.ts.take j) + (t.held.count (k : Int) : Int)) han];exact iK (by rw [H4];omega)
    have etab : (tab n (fun k=>(fK v.1.m k : Int) + iF k (v.1.ts.take j) + (t.held.count (k : Int) : Int))).set a ((fK v.1.m a : Int) + iF a (v.1.ts.take j) + (t.held.count (a : Int) : Int) + 1)=tab n (fun k=>(fK v.1.m k : Int) + iF k (v.1.ts.take (j + 1))) :=
     JZ (fun _=>by show _=(fK v.1.m a : Int) + iF a (v.1.ts.take (j + 1));rw [htt,hone];omega) fun k hk hne=>by
      have:=HS (k:=(k : Int)) (l:=v.1.ts) (j:=j) (by omega)
      rw [show v.1.ts.getD j default=t from ht,cu hho,if_neg (by omega)] at this
      show _=(fK v.1.m k : Int) + iF k (v.1.ts.take (j + 1))
      omega
    have ecell : ((G2 v.1.ts).rows.getD j []).getD 10 .u=.i (a : Int):=by rw [e10,ha]
    refine ag (by simp only [nrm,xdn,reduceIte,Nat.reduceLT,Nat.reduceSub,Nat.reduceAdd,cg,Int.toNat_natCast,ecell];omega) (ag (by simp only [nrm,xdn,reduceIte,Nat.reduceLT,Nat.reduceSub,Nat.reduceAdd,cg,Int.toNat_natCast,ecell,aw,H4];omega) (G1 (by simp only [nrm,xdn,reduceIte,Nat.reduceLT,Nat.reduceSub,Nat.reduceAdd,cg,Int.toNat_natCast,ecell,ea];omega) (G1 (by simp only [nrm,xdn,reduceIte,Nat.reduceLT,Nat.reduceSub,Nat.reduceAdd];omega) (fj (by decide) ⟨⟨j + 1,?_,by omega⟩,?_⟩))))
    ·simp only [nrm,xdn,reduceIte,Nat.reduceLT,Nat.reduceSub,Nat.reduceAdd,cg,Int.toNat_natCast,ecell,ea,iG,etab];rfl
    ·simp only [nrm,xdn,reduceIte,Nat.reduceLT,Nat.reduceSub,Nat.reduceAdd];omega
  ·simp only [nrm,xdn,reduceIte,Nat.reduceLT,Nat.reduceSub,Nat.reduceAdd,cg,Int.toNat_natCast,e1] at h7
   have hn7 : ¬ (t.f.c.kind=2∧t.f.pc=7):=fun p=>h7 p.1
   have hsl : 0≤t.f.slot:=by omega
   have hho : cr t=t.f.slot:=by unfold cr;rw [if_pos ⟨hbu,hn7⟩]
   have hfo:=hV.fo t htin hbu
   have hs1:=hfo.slot1
   obtain ⟨a,ha⟩ : ∃ a : Nat,t.f.slot=a:=⟨t.f.slot.toNat,by omega⟩
   have han : a < n:=by omega
   have htt:=HS (k:=(a : Int)) (l:=v.1.ts) (j:=j) (by omega)
   have htp:=Jj (k:=(a : Int)) (l:=v.1.ts) (j:=j + 1)
   rw [show v.1.ts.getD j default=t from ht] at htt
   have hone : fv (a : Int) t=(t.held.count (a : Int) : Int) + 1:=by rw [cu hho,if_pos ha]
   have hb1:=hbound a han
   have hb6:=Af (a : Int) (v.1.ts.take j)
   have ea : ((af (tab n (fun k=>(fK v.1.m k : Int) + iF k (v.1.ts.take j) + (t.held.count (k : Int) : Int)))).rows.getD a []).getD 0 .u=.i ((fK v.1.m a : Int) + iF a (v.1.ts.take j) + (t.held.count (a : Int) : Int)):=by rw [← Jk (c:=fun k=>(fK v.1.m k : Int) + iF k (v.1.ts.take j) + (t.held.count (k : Int) : Int)) han];exact iK (by rw [H4];omega)
   have etab : (tab n (fun k=>(fK v.1.m k : Int) + iF k (v.1.ts.take j) + (t.held.count (k : Int) : Int))).set a ((fK v.1.m a : Int) + iF a (v.1.ts.take j) + (t.held.count (a : Int) : Int) + 1)=tab n (fun k=>(fK v.1.m k : Int) + iF k (v.1.ts.take (j + 1))) :=
    JZ (fun _=>by show _=(fK v.1.m a : Int) + iF a (v.1.ts.take (j + 1));rw [htt,hone];omega) fun k hk hne=>by
     have:=HS (k:=(k : Int)) (l:=v.1.ts) (j:=j) (by omega)
     rw [show v.1.ts.getD j default=t from ht,cu hho,if_neg (by omega)] at this
     show _=(fK v.1.m k : Int) + iF k (v.1.ts.take (j + 1))
     omega
   have ecell : ((G2 v.1.ts).rows.getD j []).getD 10 .u=.i (a : Int):=by rw [e10,ha]
   refine ag (by simp only [nrm,xdn,reduceIte,Nat.reduceLT,Nat.reduceSub,Nat.reduceAdd,cg,Int.toNat_natCast,ecell];omega) (ag (by simp only [nrm,xdn,reduceIte,Nat.reduceLT,Nat.reduceSub,Nat.reduceAdd,cg,Int.toNat_natCast,ecell,aw,H4];omega) (G1 (by simp only [nrm,xdn,reduceIte,Nat.reduceLT,Nat.reduceSub,Nat.reduceAdd,cg,Int.toNat_natCast,ecell,ea];omega) (G1 (by simp only [nrm,xdn,reduceIte,Nat.reduceLT,Nat.reduceSub,Nat.reduceAdd];omega) (fj (by decide) ⟨⟨j + 1,?_,by omega⟩,?_⟩))))
   ·simp only [nrm,xdn,reduceIte,Nat.reduceLT,Nat.reduceSub,Nat.reduceAdd,cg,Int.toNat_natCast,ecell,ea,iG,etab];rfl
   ·simp only [nrm,xdn,reduceIte,Nat.reduceLT,Nat.reduceSub,Nat.reduceAdd];omega
 simp only [nrm,xdn,reduceIte,Nat.reduceLT,Nat.reduceSub,Nat.reduceAdd,cg,cJ] at h3
 rw [show v.1.ts.take j=v.1.ts from List.take_of_length_le (by omega)]
 refine bO (fun ds=>∃ k : Nat,ds=[.i k]∧k≤n) (fun ds=>n - (ds.getD 0 .u).int.toNat) ⟨0,rfl,by omega⟩ ?_
 rintro ds - ⟨k,rfl,hk⟩
 refine G0 (fun h4=>?_) (fun h4=>?_)
 ·simp only [nrm,xdn,reduceIte,Nat.reduceLT,Nat.reduceSub,Nat.reduceAdd,aN] at h4
  have hkn : k < n:=by omega
  have es : ((au v.1.m.slots).rows.getD k []).getD 0 .u=.i (msl v.1.m k).refs:=dh bp.row v.1.m.slots k 0 (by omega)
  have ea : ((af (tab n (fun k=>(fK v.1.m k : Int) + iF k v.1.ts))).rows.getD k []).getD 0 .u=.i ((fK v.1.m k : Int) + iF k v.1.ts):=by rw [← Jk (c:=fun k=>(fK v.1.m k : Int) + iF k v.1.ts) hkn];exact iK (by rw [H4];omega)
  have hrf:=hV.rf k (by omega)
  refine ag (by simp only [nrm,xdn,reduceIte,Nat.reduceLT,Nat.reduceSub,Nat.reduceAdd];omega) (ag (by simp only [nrm,xdn,reduceIte,Nat.reduceLT,Nat.reduceSub,Nat.reduceAdd,aw,H4];omega) (G0 (fun hn=>?_) (fun _=>?_)))
  ·simp only [nrm,xdn,reduceIte,Nat.reduceLT,Nat.reduceSub,Nat.reduceAdd,Int.toNat_natCast,es,ea,hrf] at hn
   simp at hn
  refine G1 (by simp only [nrm,xdn,reduceIte,Nat.reduceLT,Nat.reduceSub,Nat.reduceAdd];omega) (aV ⟨⟨k + 1,?_,by omega⟩,?_⟩)
  ·simp only [nrm,xdn,reduceIte,Nat.reduceLT,Nat.reduceSub,Nat.reduceAdd];rfl
  ·simp only [nrm,xdn,reduceIte,Nat.reduceLT,Nat.reduceSub,Nat.reduceAdd];omega
 ·refine G1 (by simp only [nrm,xdn,reduceIte,Nat.reduceLT,Nat.reduceSub,Nat.reduceAdd];omega) (JN (by decide) (by decide) (by decide) ⟨⟨i + 1,v.1,?_,hV.bm⟩,?_⟩)
  ·simp only [nrm,xdn,reduceIte,Nat.reduceLT,Nat.reduceSub,Nat.reduceAdd,cg];rfl
  ·simp only [nrm,xdn,reduceIte,Nat.reduceLT,Nat.reduceSub,Nat.reduceAdd];omega
end Go.Proofs.Ytpmamacjepcdmaa
