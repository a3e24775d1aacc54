import Derived.Test.YtpmamacjepcdmaaCSame
namespace Go.Proofs.Ytpmamacjepcdmaa
open Go Go.Sy Go.RowKit
set_option linter.unusedSimpArgs false
set_option linter.unusedVariables false
theorem JH {α : Type} [Inhabited α] {g : α→α} : ∀ {l : List α} {i k : Nat},i≠k→(l.modify i g).getD k default=l.getD k default
 | [],i,k,_=>by simp
 | a :: l,0,0,h=>absurd rfl h
 | a :: l,0,k + 1,_=>by simp
 | a :: l,i + 1,0,_=>by simp
 | a :: l,i + 1,k + 1,h=>by
  have:=JH (g:=g) (l:=l) (i:=i) (k:=k) (fun e=>h (by omega))
  simpa using this
theorem Ng {w : Wrd} {x : Int} {k : Nat} (h : x.toNat≠k) : (cN w x).1.ts.getD k default=w.ts.getD k default:=by
 unfold cN
 repeat' split
 all_goals first
  | rfl
  | exact JH h
theorem MZ {w : Wrd} {x : Int} {c : Cal} {k : Nat} (h : x.toNat≠k) : (eR w x c).1.ts.getD k default=w.ts.getD k default:=by
 unfold eR
 repeat' split
 all_goals first
  | rfl
  | exact JH h
theorem LX {w : Wrd} {x : Pik} {k : Nat} (h : (k : Int)≠x.task∨x.tick=true) : (bN w x).1.ts.getD k default=w.ts.getD k default:=by
 unfold bN
 split
 ·split <;> rfl
 ·rename_i ht
  have h : (k : Int)≠x.task:=h.resolve_right ht
  split
  ·rfl
  ·split
   ·exact Ng (by omega)
   ·exact MZ (by omega)
theorem L9 {w : Wrd} {x : Int} {c : Cal} : (eR w x c).1.m=w.m:=by
 unfold eR
 repeat' split
 all_goals rfl
theorem MI {n : Nat} {w : Wrd} (h : kq n w) {x : Int} (hx : tsk w x∈w.ts) : (cN w x).1.m.now=w.m.now:=by
 unfold cN
 split
 ·rfl
 rename_i hb
 have hf:=(h.t _ hx).2.2 (by simpa using hb)
 split
 ·split <;> exact (mg (m:=w.m) (f:=(tsk w x).f)).1.now
 split
 ·exact (gW x h.m hf (by assumption)).now
 split
 ·exact (gz x h.m hf (by assumption)).now
 split
 ·exact (fF x h.m hf (by assumption)).now
 split
 ·exact (jw _ _).2.2.2
 ·rfl
theorem ML {n : Nat} {w : Wrd} (h : kq n w) {x : Pik} (ht : x.tick=false) : (bN w x).1.m.now=w.m.now:=by
 unfold bN
 rw [if_neg (by rw [ht];exact Bool.false_ne_true)]
 split
 ·rfl
 ·split
  ·exact MI h (fc (by omega))
  ·rw [L9]
theorem Mj {w : Wrd} {x : Pik} (h : (bN w x).2=0) (ht : x.tick=true) : (bN w x).1.m.now=w.m.now + 1:=by
 unfold bN at h ⊢
 rw [if_pos ht] at h ⊢
 split at h
 ·cases h
 ·rename_i h1
  rw [if_neg h1]
theorem Mk {w : Wrd} {x : Pik} (ht : x.tick=false) (hs : x.step=false) : (bN w x).1.m=w.m:=by
 unfold bN
 rw [if_neg (by rw [ht];exact Bool.false_ne_true)]
 split
 ·rfl
 ·rw [if_neg (by rw [hs];exact Bool.false_ne_true),L9]
theorem L4 {ts : List Tsk} {i : Nat} (h : i < ts.length) : (ts.map Tsk.bm).getD i default=(ts.getD i default).bm:=by
 simp [List.getD_eq_getElem?_getD,h]
def s34 : Sig:=⟨[.agg [.fz kS,.fz kI,.fz kI,.fz kI,.int .i64,.fz kT],.agg [.int .i64,.bool,.bool,.int .i64,.int .i64,.int .i64,.int .i64,.int .i64,.int .i64]],[.one (.bool)]⟩
def d34 : DC:=⟨s34,fun _=>True,fun _=>[.b true]⟩
def l34 : List (Nat × Ct):=[(140,d140.ct),(79,d79.ct),(47,d47.ct),(39,d39.ct),(59,d59.ct)]
def z34 : Cx:={ T:=ttA,C:=sigs l34,F:=[],hints:=[⟨34,7,false,[(33,.lt)],[(2,5,.fz kT)],[],[],0,0,false⟩],sig:=s34}
def t34 : Tree :=
 (.call 140 [.var 0,.var 1,.var 2,.var 3,.var 4,.var 5,.var 6,.var 7,.var 8,.var 9,.var 10,.var 11,.var 12,.var 13,.var 14] 15
 (.call 79 [] 22
 (.ite (.not (.var 22))
 (.call 79 [] 23
 (.ret [.var 23]))
 (.ite (.not (.eq (.var 21) (.int 0)))
 (.call 79 [] 23
 (.ret [.var 23]))
 (.ite (.not (.eq (.len (.var 20)) (.len (.var 5))))
 (.ret [.bool false])
 (.need (.clean (.var 20) 15)
 (.loop 23 [.int .i64,.sl 160 [.bool,.int .i64,.int .i64,.int .i64,.int .i64,.int .i64,.int .i64,.int .i64,.int .i64,.int .i64,.int .i64,.int .i64,.sl 16 [.int .i64,.int .i64],.bool,.int .i64,.sl 8 [.int .i64]]] [.int 0,.shuts (.var 20) 15]
 (.ite (.lt (.var 24) (.len (.var 5)))
 (.need (.le (.int 0) (.var 24))
 (.need (.lt (.var 24) (.len (.var 25)))
 (.ite (.not (.eq (.var 24) (.var 6)))
 (.ite (.not (.beq (.cell (.var 25) (.var 24) 0) (.cell (.var 5) (.var 24) 0)))
 (.ret [.bool false])
 (.call 47 [.cell (.var 25) (.var 24) 1,.cell (.var 25) (.var 24) 2,.cell (.var 25) (.var 24) 3,.cell (.var 25) (.var 24) 4,.cell (.var 25) (.var 24) 5,.cell (.var 25) (.var 24) 6,.cell (.var 25) (.var 24) 7,.cell (.var 25) (.var 24) 8,.cell (.var 25) (.var 24) 9,.cell (.var 25) (.var 24) 10,.cell (.var 25) (.var 24) 11,.cell (.var 25) (.var 24) 12,.cell (.var 25) (.var 24) 13,.cell (.var 25) (.var 24) 14,.cell (.var 5) (.var 24) 1,.cell (.var 5) (.var 24) 2,.cell (.var 5) (.var 24) 3,.cell (.var 5) (.var 24) 4,.cell (.var 5) (.var 24) 5,.cell (.var 5) (.var 24) 6,.cell (.var 5) (.var 24) 7,.cell (.var 5) (.var 24) 8,.cell (.var 5) (.var 24) 9,.cell (.var 5) (.var 24) 10,.cell (.var 5) (.var 24) 11,.cell (.var 5) (.var 24) 12,.cell (.var 5) (.var 24) 13,.cell (.var 5) (.var 24) 14] 26
 (.ite (.not (.var 26))
 (.ret [.bool false])
 (.call 39 [.cell (.var 25) (.var 24) 15,.cell (.var 5) (.var 24) 15] 27
 (.ite (.not (.var 27))
 (.ret [.bool false])
 (.need (.fit (.add (.var 24) (.int 1)))
 (.back 23 [.add (.var 24) (.int 1),.var 25])))))))
 (.ite (.var 8)
 (.ite (.not (.beq (.cell (.var 25) (.var 24) 0) (.cell (.var 5) (.var 24) 0)))
 (.ret [.bool false])
 (.call 47 [.cell (.var 25) (.var 24) 1,.cell (.var 25) (.var 24) 2,.cell (.var 25) (.var 24) 3,.cell (.var 25) (.var 24) 4,.cell (.var 25) (.var 24) 5,.cell (.var 25) (.var 24) 6,.cell (.var 25) (.var 24) 7,.cell (.var 25) (.var 24) 8,.cell (.var 25) (.var 24) 9,.cell (.var 25) (.var 24) 10,.cell (.var 25) (.var 24) 11,.cell (.var 25) (.var 24) 12,.cell (.var 25) (.var 24) 13,.cell (.var 25) (.var 24) 14,.cell (.var 5) (.var 24) 1,.cell (.var 5) (.var 24) 2,.cell (.var 5) (.var 24) 3,.cell (.var 5) (.var 24) 4,.cell (.var 5) (.var 24) 5,.cell (.var 5) (.var 24) 6,.cell (.var 5) (.var 24) 7,.cell (.var 5) (.var 24) 8,.cell (.var 5) (.var 24) 9,.cell (.var 5) (.var 24) 10,.cell (.var 5) (.var 24) 11,.cell (.var 5) (.var 24) 12,.cell (.var 5) (.var 24) 13,.cell (.var 5) (.var 24) 14] 26
 (.ite (.not (.var 26))
 (.ret [.bool false])
 (.call 39 [.cell (.var 25) (.var 24) 15,.cell (.var 5) (.var 24) 15] 27
 (.ite (.not (.var 27))
 (.ret [.bool false])
 (.need (.fit (.add (.var 24) (.int 1)))
 (.back 23 [.add (.var 24) (.int 1),.var 25])))))))
 (.need (.fit (.add (.var 24) (.int 1)))
 (.back 23 [.add (.var 24) (.int 1),.var 25]))))))
 (.need (.fit (.add (.var 4) (.int 1)))
 (.ite (.beq (.var 8) (.eq (.var 19) (.add (.var 4) (.int 1))))
 (.ite (.var 7)
 (.ret [.bool true])
 (.call 59 [.var 0,.var 1,.var 2,.var 3,.var 4,.var 15,.var 16,.var 17,.var 18,.var 19] 26
 (.ite (.var 26)
 (.ret [.bool true])
 (.ret [.var 8]))))
 (.ret [.bool false])))))))))))
theorem run34 : run z34 6000 [.code (Try.f34.body.getD .skip),.fin (bt z34 Try.f34.results.toList 50)] { fn:=34,tmps:=z34.sig.aM ++ List.replicate (Try.f34.ntmps - z34.sig.aM.length) (.v (.one .undef)),stk:=[],h:=z34.sig.h0,nx:=z34.sig.ins.length,known:=[]}=t34:=by kernel_rfl
set_option maxHeartbeats 4000000 in
theorem ok34 : cB Try.prog 34 d34.ct:=by
 refine aD (d:=d34) (Z:=z34) (Γ:=gam l34) (fn:=Try.f34) (c:=Try.f34.body.getD .skip) (bg tok mixed (all_cons ok140 (all_cons ok79 (all_cons ok47 (all_cons ok39 (all_cons ok59 all_nil))))) bh) Try.func34 (by kernel_rfl) (by kernel_rfl) rfl run34 fun E hk hp=>?_
 obtain ⟨hk0,hk1,hk2,hk3,hk4,hk5,hk6,hk7,hk8,hk9,hk10,hk11,hk12,hk13,hk14,_⟩:=hk
 obtain ⟨m,e0,e1,e2,e3,e4,b0,b1,b2,b3⟩:=cv (d0:=E 0) (d1:=E 1) (d2:=E 2) (d3:=E 3) (d4:=E 4) hk0 hk1 hk2 hk3 hk4
 obtain ⟨ts,e5,hts,b5⟩:=hU (d:=E 5) hk5
 have b5 : ts.length * 160≤140737488355328:=b5
 obtain ⟨x,e6,e7,e8,e9,e10,e11,e12,e13,e14⟩:=vL (d0:=E 6) (d1:=E 7) (d2:=E 8) (d3:=E 9) (d4:=E 10) (d5:=E 11) (d6:=E 12) (d7:=E 13) (d8:=E 14) hk6 hk7 hk8 hk9 hk10 hk11 hk12 hk13 hk14
 have el : aH E d34.sig.ins.length=[au m.slots,af m.heads,af m.free,af m.locks,.i m.now,G2 ts,.i x.task,.b x.step,.b x.tick,.i x.c.kind,.i x.c.k.a,.i x.c.k.b,.i x.c.time,.i x.c.bucket,.i x.c.slot]:=by
  show [E 0,E 1,E 2,E 3,E 4,E 5,E 6,E 7,E 8,E 9,E 10,E 11,E 12,E 13,E 14]=_
  rw [e0,e1,e2,e3,e4,e5,e6,e7,e8,e9,e10,e11,e12,e13,e14]
 rw [el] at hp
 rw [el]
 rw [Env.bJ el]
 clear el e0 e1 e2 e3 e4 e5 e6 e7 e8 e9 e10 e11 e12 e13 e14
 have hown : ∀ t∈ts,t.own=false:=fun t ht=>(hts t ht).1
 simp only [d34]
 unfold t34
 obtain ⟨R,hR⟩ : ∃ R,doW ⟨m,ts⟩ x=R:=⟨_,rfl⟩
 refine ai d140 (R.1.cds ++ [.i R.2]) rfl trivial (by simp only [nrm,xdn,reduceIte,Nat.reduceLT,Nat.reduceSub,Nat.reduceAdd,d140,kr _ _ _ _ _ hown,aA,List.drop_succ_cons,List.drop_zero,oe,cz];rw [← hR]) (ai d79 [.b true] rfl trivial rfl (Fk (by simp only [nrm,xdn,reduceIte,Nat.reduceLT,Nat.reduceSub,Nat.reduceAdd,Wrd.cds,Mem.cds,lca] <;> rfl) (G0 (fun h=>ai d79 [.b true] rfl trivial rfl (aj ?_)) (fun h=>?_))))
 ·simp only [nrm,xdn,reduceIte,Nat.reduceLT,Nat.reduceSub,Nat.reduceAdd,Wrd.cds,Mem.cds,lca]
 simp only [nrm,xdn,reduceIte,Nat.reduceLT,Nat.reduceSub,Nat.reduceAdd,Wrd.cds,Mem.cds,lca] at h
 have h : R.2=0:=by simpa using h
 obtain ⟨hc,hp,hv⟩ : bL ⟨m,ts⟩=0∧(bN (Wrd.bm ⟨m,ts⟩) x).2=0∧(bN (Wrd.bm ⟨m,ts⟩) x).1=R.1:=by
  unfold doW at hR
  split at hR
  ·rename_i h1;rw [← hR] at h;exact absurd h h1
  ·rename_i h1
   split at hR
   ·rename_i h2;rw [← hR] at h;exact absurd h h2
   ·rename_i h2
    exact ⟨Classical.not_not.1 h1,Classical.not_not.1 h2,by rw [← hR]⟩
 have hw:=EB hc
 have hl : R.1.ts.length=ts.length:=by rw [← hv,sN,kb]
 have hn0:=hw.m.ma
 have hn1:=hw.m.Ik
 have hn0 : 0≤m.now:=hn0
 have hn1 : m.now≤1000000:=hn1
 obtain ⟨v,hv1⟩ : ∃ v,R.1=v:=⟨_,rfl⟩
 rw [hv1] at hv hl ⊢
 refine Fk (by simp only [nrm,xdn,reduceIte,Nat.reduceLT,Nat.reduceSub,Nat.reduceAdd,Wrd.cds,Mem.cds,lca,eK,cJ,hl,beq_self_eq_true,Bool.not_true] <;> rfl) (ag (by simp only [nrm,xdn,reduceIte,Nat.reduceLT,Nat.reduceSub,Nat.reduceAdd,Wrd.cds,Mem.cds,lca];exact aI _) (bO (fun ds=>∃ i : Nat,ds=[.i i,G2 v.ts]∧i≤ts.length) (fun ds=>ts.length - (ds.getD 0 .u).int.toNat) ⟨0,?_,by omega⟩ ?_))
 ·simp only [nrm,xdn,reduceIte,Nat.reduceLT,Nat.reduceSub,Nat.reduceAdd,Wrd.cds,Mem.cds,lca,cg];rfl
 rintro ds - ⟨i,rfl,hi⟩
 refine G0 (fun hlt=>?_) (fun hge=>?_)
 ·simp only [nrm,xdn,reduceIte,Nat.reduceLT,Nat.reduceSub,Nat.reduceAdd,cJ] at hlt
  obtain ⟨t,ht⟩ : ∃ t,ts.getD i default=t:=⟨_,rfl⟩
  have a0 : ((G2 ts).rows.getD i []).getD 0 .u=.b t.busy:=by rw [iB 0 (by omega),ht];rfl
  have a1 : ((G2 ts).rows.getD i []).getD 1 .u=.i t.f.c.kind:=by rw [iB 1 (by omega),ht];rfl
  have a2 : ((G2 ts).rows.getD i []).getD 2 .u=.i t.f.c.k.a:=by rw [iB 2 (by omega),ht];rfl
  have a3 : ((G2 ts).rows.getD i []).getD 3 .u=.i t.f.c.k.b:=by rw [iB 3 (by omega),ht];rfl
  have a4 : ((G2 ts).rows.getD i []).getD 4 .u=.i t.f.c.time:=by rw [iB 4 (by omega),ht];rfl
  have a5 : ((G2 ts).rows.getD i []).getD 5 .u=.i t.f.c.bucket:=by rw [iB 5 (by omega),ht];rfl
  have a6 : ((G2 ts).rows.getD i []).getD 6 .u=.i t.f.c.slot:=by rw [iB 6 (by omega),ht];rfl
  have a7 : ((G2 ts).rows.getD i []).getD 7 .u=.i t.f.pc:=by rw [iB 7 (by omega),ht];rfl
  have a8 : ((G2 ts).rows.getD i []).getD 8 .u=.i t.f.cur:=by rw [iB 8 (by omega),ht];rfl
  have a9 : ((G2 ts).rows.getD i []).getD 9 .u=.i t.f.prev:=by rw [iB 9 (by omega),ht];rfl
  have a10 : ((G2 ts).rows.getD i []).getD 10 .u=.i t.f.slot:=by rw [iB 10 (by omega),ht];rfl
  have a11 : ((G2 ts).rows.getD i []).getD 11 .u=.i t.f.n:=by rw [iB 11 (by omega),ht];rfl
  have a12 : ((G2 ts).rows.getD i []).getD 12 .u=bS t.f.keys:=by rw [iB 12 (by omega),ht];rfl
  have a13 : ((G2 ts).rows.getD i []).getD 13 .u=.b t.f.done:=by rw [iB 13 (by omega),ht];rfl
  have a14 : ((G2 ts).rows.getD i []).getD 14 .u=.i t.f.e:=by rw [iB 14 (by omega),ht];rfl
  have a15 : ((G2 ts).rows.getD i []).getD 15 .u=af t.held:=by rw [iB 15 (by omega),ht];rfl
  refine ag (by simp only [nrm,xdn,reduceIte,Nat.reduceLT,Nat.reduceSub,Nat.reduceAdd];omega) (ag (by simp only [nrm,xdn,reduceIte,Nat.reduceLT,Nat.reduceSub,Nat.reduceAdd,cJ];omega) (G0 (fun h1=>?_) (fun h1=>G0 (fun h2=>?_) (fun h2=>?_))))
  ·simp only [nrm,xdn,reduceIte,Nat.reduceLT,Nat.reduceSub,Nat.reduceAdd] at h1
   have hne : (i : Int)≠x.task∨x.tick=true:=.inl (by simpa using h1)
   have hu : v.ts.getD i default=t.bm:=by rw [← hv];exact (LX hne).trans (by rw [← ht];exact L4 (show i < ts.length by omega))
   have b0' : ((G2 v.ts).rows.getD i []).getD 0 .u=.b t.busy:=by rw [iB 0 (by omega),hu];rfl
   have b1' : ((G2 v.ts).rows.getD i []).getD 1 .u=.i t.f.c.kind:=by rw [iB 1 (by omega),hu];rfl
   have b2' : ((G2 v.ts).rows.getD i []).getD 2 .u=.i t.f.c.k.a:=by rw [iB 2 (by omega),hu];rfl
   have b3' : ((G2 v.ts).rows.getD i []).getD 3 .u=.i t.f.c.k.b:=by rw [iB 3 (by omega),hu];rfl
   have b4' : ((G2 v.ts).rows.getD i []).getD 4 .u=.i t.f.c.time:=by rw [iB 4 (by omega),hu];rfl
   have b5' : ((G2 v.ts).rows.getD i []).getD 5 .u=.i t.f.c.bucket:=by rw [iB 5 (by omega),hu];rfl
   have b6' : ((G2 v.ts).rows.getD i []).getD 6 .u=.i t.f.c.slot:=by rw [iB 6 (by omega),hu];rfl
   have b7' : ((G2 v.ts).rows.getD i []).getD 7 .u=.i t.f.pc:=by rw [iB 7 (by omega),hu];rfl
   have b8' : ((G2 v.ts).rows.getD i []).getD 8 .u=.i t.f.cur:=by rw [iB 8 (by omega),hu];rfl
   have b9' : ((G2 v.ts).rows.getD i []).getD 9 .u=.i t.f.prev:=by rw [iB 9 (by omega),hu];rfl
   have b10' : ((G2 v.ts).rows.getD i []).getD 10 .u=.i t.f.slot:=by rw [iB 10 (by omega),hu];rfl
   have b11' : ((G2 v.ts).rows.getD i []).getD 11 .u=.i t.f.n:=by rw [iB 11 (by omega),hu];rfl
   have b12' : ((G2 v.ts).rows.getD i []).getD 12 .u=bS t.f.keys:=by rw [iB 12 (by omega),hu];rfl
   have b13' : ((G2 v.ts).rows.getD i []).getD 13 .u=.b t.f.done:=by rw [iB 13 (by omega),hu];rfl
   have b14' : ((G2 v.ts).rows.getD i []).getD 14 .u=.i t.f.e:=by rw [iB 14 (by omega),hu];rfl
   have b15' : ((G2 v.ts).rows.getD i []).getD 15 .u=af t.held:=by rw [iB 15 (by omega),hu];rfl
   refine Fk (by simp only [nrm,xdn,reduceIte,Nat.reduceLT,Nat.reduceSub,Nat.reduceAdd,Int.toNat_natCast,a0,a1,a2,a3,a4,a5,a6,a7,a8,a9,a10,a11,a12,a13,a14,a15,b0',b1',b2',b3',b4',b5',b6',b7',b8',b9',b10',b11',b12',b13',b14',b15',beq_self_eq_true,Bool.not_true] <;> rfl) (ai d47 [.b true] rfl trivial (by simp only [nrm,xdn,reduceIte,Nat.reduceLT,Nat.reduceSub,Nat.reduceAdd,Int.toNat_natCast,a0,a1,a2,a3,a4,a5,a6,a7,a8,a9,a10,a11,a12,a13,a14,a15,b0',b1',b2',b3',b4',b5',b6',b7',b8',b9',b10',b11',b12',b13',b14',b15',fn47,decide_true]) (Fk (by simp only [nrm,xdn,reduceIte,Nat.reduceLT,Nat.reduceSub,Nat.reduceAdd] <;> rfl) (ai d39 [.b true] rfl trivial (by simp only [nrm,xdn,reduceIte,Nat.reduceLT,Nat.reduceSub,Nat.reduceAdd,Int.toNat_natCast,a0,a1,a2,a3,a4,a5,a6,a7,a8,a9,a10,a11,a12,a13,a14,a15,b0',b1',b2',b3',b4',b5',b6',b7',b8',b9',b10',b11',b12',b13',b14',b15',d39,bY,decide_true]) (Fk (by simp only [nrm,xdn,reduceIte,Nat.reduceLT,Nat.reduceSub,Nat.reduceAdd] <;> rfl) ?_))))
   refine G1 (by simp only [nrm,xdn,reduceIte,Nat.reduceLT,Nat.reduceSub,Nat.reduceAdd];omega) (aV ⟨⟨i + 1,?_,by omega⟩,?_⟩)
   ·simp only [nrm,xdn,reduceIte,Nat.reduceLT,Nat.reduceSub,Nat.reduceAdd];rfl
   ·simp only [nrm,xdn,reduceIte,Nat.reduceLT,Nat.reduceSub,Nat.reduceAdd];omega
  ·simp only [nrm,xdn,reduceIte,Nat.reduceLT,Nat.reduceSub,Nat.reduceAdd] at h2
   have hne : (i : Int)≠x.task∨x.tick=true:=.inr h2
   have hu : v.ts.getD i default=t.bm:=by rw [← hv];exact (LX hne).trans (by rw [← ht];exact L4 (show i < ts.length by omega))
   have b0' : ((G2 v.ts).rows.getD i []).getD 0 .u=.b t.busy:=by rw [iB 0 (by omega),hu];rfl
   have b1' : ((G2 v.ts).rows.getD i []).getD 1 .u=.i t.f.c.kind:=by rw [iB 1 (by omega),hu];rfl
   have b2' : ((G2 v.ts).rows.getD i []).getD 2 .u=.i t.f.c.k.a:=by rw [iB 2 (by omega),hu];rfl
   have b3' : ((G2 v.ts).rows.getD i []).getD 3 .u=.i t.f.c.k.b:=by rw [iB 3 (by omega),hu];rfl
   have b4' : ((G2 v.ts).rows.getD i []).getD 4 .u=.i t.f.c.time:=by rw [iB 4 (by omega),hu];rfl
   have b5' : ((G2 v.ts).rows.getD i []).getD 5 .u=.i t.f.c.bucket:=by rw [iB 5 (by omega),hu];rfl
   have b6' : ((G2 v.ts).rows.getD i []).getD 6 .u=.i t.f.c.slot:=by rw [iB 6 (by omega),hu];rfl
   have b7' : ((G2 v.ts).rows.getD i []).getD 7 .u=.i t.f.pc:=by rw [iB 7 (by omega),hu];rfl
   have b8' : ((G2 v.ts).rows.getD i []).getD 8 .u=.i t.f.cur:=by rw [iB 8 (by omega),hu];rfl
   have b9' : ((G2 v.ts).rows.getD i []).getD 9 .u=.i t.f.prev:=by rw [iB 9 (by omega),hu];rfl
   have b10' : ((G2 v.ts).rows.getD i []).getD 10 .u=.i t.f.slot:=by rw [iB 10 (by omega),hu];rfl
   have b11' : ((G2 v.ts).rows.getD i []).getD 11 .u=.i t.f.n:=by rw [iB 11 (by omega),hu];rfl
   have b12' : ((G2 v.ts).rows.getD i []).getD 12 .u=bS t.f.keys:=by rw [iB 12 (by omega),hu];rfl
   have b13' : ((G2 v.ts).rows.getD i []).getD 13 .u=.b t.f.done:=by rw [iB 13 (by omega),hu];rfl
   have b14' : ((G2 v.ts).rows.getD i []).getD 14 .u=.i t.f.e:=by rw [iB 14 (by omega),hu];rfl
   have b15' : ((G2 v.ts).rows.getD i []).getD 15 .u=af t.held:=by rw [iB 15 (by omega),hu];rfl
   refine Fk (by simp only [nrm,xdn,reduceIte,Nat.reduceLT,Nat.reduceSub,Nat.reduceAdd,Int.toNat_natCast,a0,a1,a2,a3,a4,a5,a6,a7,a8,a9,a10,a11,a12,a13,a14,a15,b0',b1',b2',b3',b4',b5',b6',b7',b8',b9',b10',b11',b12',b13',b14',b15',beq_self_eq_true,Bool.not_true] <;> rfl) (ai d47 [.b true] rfl trivial (by simp only [nrm,xdn,reduceIte,Nat.reduceLT,Nat.reduceSub,Nat.reduceAdd,Int.toNat_natCast,a0,a1,a2,a3,a4,a5,a6,a7,a8,a9,a10,a11,a12,a13,a14,a15,b0',b1',b2',b3',b4',b5',b6',b7',b8',b9',b10',b11',b12',b13',b14',b15',fn47,decide_true]) (Fk (by simp only [nrm,xdn,reduceIte,Nat.reduceLT,Nat.reduceSub,Nat.reduceAdd] <;> rfl) (ai d39 [.b true] rfl trivial (by simp only [nrm,xdn,reduceIte,Nat.reduceLT,Nat.reduceSub,Nat.reduceAdd,Int.toNat_natCast,a0,a1,a2,a3,a4,a5,a6,a7,a8,a9,a10,a11,a12,a13,a14,a15,b0',b1',b2',b3',b4',b5',b6',b7',b8',b9',b10',b11',b12',b13',b14',b15',d39,bY,decide_true]) (Fk (by simp only [nrm,xdn,reduceIte,Nat.reduceLT,Nat.reduceSub,Nat.reduceAdd] <;> rfl) ?_))))
   refine G1 (by simp only [nrm,xdn,reduceIte,Nat.reduceLT,Nat.reduceSub,Nat.reduceAdd];omega) (aV ⟨⟨i + 1,?_,by omega⟩,?_⟩)
   ·simp only [nrm,xdn,reduceIte,Nat.reduceLT,Nat.reduceSub,Nat.reduceAdd];rfl
   ·simp only [nrm,xdn,reduceIte,Nat.reduceLT,Nat.reduceSub,Nat.reduceAdd];omega
  ·skip
   refine G1 (by simp only [nrm,xdn,reduceIte,Nat.reduceLT,Nat.reduceSub,Nat.reduceAdd];omega) (aV ⟨⟨i + 1,?_,by omega⟩,?_⟩)
   ·simp only [nrm,xdn,reduceIte,Nat.reduceLT,Nat.reduceSub,Nat.reduceAdd];rfl
   ·simp only [nrm,xdn,reduceIte,Nat.reduceLT,Nat.reduceSub,Nat.reduceAdd];omega
 ·refine G1 (by simp only [nrm,xdn,reduceIte,Nat.reduceLT,Nat.reduceSub,Nat.reduceAdd];omega) ?_
  cases htk : x.tick with
  | true =>
   have e:=Mj hp htk
   rw [hv] at e
   have e : v.m.now=m.now + 1:=e
   refine Bf (by simp only [nrm,xdn,reduceIte,Nat.reduceLT,Nat.reduceSub,Nat.reduceAdd,Wrd.cds,Mem.cds,lca,htk,e,beq_self_eq_true] <;> rfl) (G0 (fun _=>aj ?_) (fun _=>ai d59 [.b (decide (m=v.m))] rfl trivial (by simp only [nrm,xdn,reduceIte,Nat.reduceLT,Nat.reduceSub,Nat.reduceAdd,Wrd.cds,Mem.cds,lca,d59,mem_of,aA,List.drop_succ_cons,List.drop_zero]) (G0 (fun _=>aj ?_) (fun _=>aj ?_))))
   ·simp only [nrm,xdn,reduceIte,Nat.reduceLT,Nat.reduceSub,Nat.reduceAdd]
   ·simp only [nrm,xdn,reduceIte,Nat.reduceLT,Nat.reduceSub,Nat.reduceAdd]
   ·simp only [nrm,xdn,reduceIte,Nat.reduceLT,Nat.reduceSub,Nat.reduceAdd,htk]
  | false =>
   have e:=ML hw htk
   rw [hv] at e
   have e : v.m.now=m.now:=e
   have e2 : (m.now ==m.now + 1)=false:=by rw [beq_eq_false_iff_ne];omega
   refine Bf (by simp only [nrm,xdn,reduceIte,Nat.reduceLT,Nat.reduceSub,Nat.reduceAdd,Wrd.cds,Mem.cds,lca,htk,e,e2] <;> rfl) (G0 (fun _=>aj ?_) (fun h3=>ai d59 [.b (decide (m=v.m))] rfl trivial (by simp only [nrm,xdn,reduceIte,Nat.reduceLT,Nat.reduceSub,Nat.reduceAdd,Wrd.cds,Mem.cds,lca,d59,mem_of,aA,List.drop_succ_cons,List.drop_zero]) (Bf ?_ (aj ?_))))
   ·simp only [nrm,xdn,reduceIte,Nat.reduceLT,Nat.reduceSub,Nat.reduceAdd]
   ·simp only [nrm,xdn,reduceIte,Nat.reduceLT,Nat.reduceSub,Nat.reduceAdd] at h3
    have e3:=Mk (w:=Wrd.bm ⟨m,ts⟩) htk h3
    rw [hv] at e3
    have e3 : v.m=m:=e3
    simp only [nrm,xdn,reduceIte,Nat.reduceLT,Nat.reduceSub,Nat.reduceAdd,e3,decide_true]
   ·simp only [nrm,xdn,reduceIte,Nat.reduceLT,Nat.reduceSub,Nat.reduceAdd]
end Go.Proofs.Ytpmamacjepcdmaa
