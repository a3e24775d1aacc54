import Derived.Test.YtpmamacjepcdmaaCLooked
namespace Go.Proofs.Ytpmamacjepcdmaa
open Go Go.Sy Go.RowKit
set_option linter.unusedSimpArgs false
set_option linter.unusedVariables false
def s102 : Sig:=⟨[.ptr [.own 52 kS,.own 3 kI,.own 3 kI,.own 3 kI,.int .i64],.agg [.int .i64,.int .i64,.int .i64,.int .i64,.int .i64,.int .i64,.int .i64,.int .i64,.int .i64,.int .i64,.int .i64,.fz kK,.bool,.int .i64]],[.agg [.int .i64,.int .i64,.int .i64,.int .i64,.int .i64,.int .i64,.int .i64,.int .i64,.int .i64,.int .i64,.int .i64,.fz kK,.bool,.int .i64]]⟩
def d102 : DC:=⟨s102,fun l=>aZ (Mem.of l)∧bV (Mem.of l) (Frm.of (l.drop 5))∧(Frm.of (l.drop 5)).c.kind=1,fun l=>(ar (Mem.of l) (Frm.of (l.drop 5))).2.cds ++ (ar (Mem.of l) (Frm.of (l.drop 5))).1.cds⟩
theorem fn102 (m : Mem) (f : Frm) : d102.fn [au m.slots,af m.heads,af m.free,af m.locks,.i m.now,.i f.c.kind,.i f.c.k.a,.i f.c.k.b,.i f.c.time,.i f.c.bucket,.i f.c.slot,.i f.pc,.i f.cur,.i f.prev,.i f.slot,.i f.n,bS f.keys,.b f.done,.i f.e]=(ar m f).2.cds ++ (ar m f).1.cds:=by
 simp only [d102,mem_of,aA,List.drop_succ_cons,List.drop_zero,dJ]
theorem pi102 {m : Mem} {f : Frm} (hm : aZ m) (hf : bV m f) (hk : f.c.kind=1) : d102.pre [au m.slots,af m.heads,af m.free,af m.locks,.i m.now,.i f.c.kind,.i f.c.k.a,.i f.c.k.b,.i f.c.time,.i f.c.bucket,.i f.c.slot,.i f.pc,.i f.cur,.i f.prev,.i f.slot,.i f.n,bS f.keys,.b f.done,.i f.e]:=by
 simp only [d102,mem_of,aA,List.drop_succ_cons,List.drop_zero,dJ]
 exact ⟨hm,hf,hk⟩
def l102 : List (Nat × Ct):=[(49,d49.ct),(67,d67.ct),(68,d68.ct)]
noncomputable def z102 : Cx:={ T:=ttA,C:=sigs l102,F:=[(182,Try.f182),(183,Try.f183),(184,Try.f184)],hints:=[],sig:=s102}
def t102 : Tree :=
 (.call 49 [.var 0,.var 1,.var 2,.var 3,.var 4,.var 5,.var 6,.var 7,.var 8,.var 9,.var 10] 19
 (.ite (.eq (.var 11) (.int 0))
 (.need (.le (.int 0) (.var 19))
 (.need (.lt (.var 19) (.len (.var 1)))
 (.ret [.var 0,.var 1,.var 2,.var 3,.var 4,.var 5,.var 6,.var 7,.var 8,.var 9,.var 10,.int 1,.cell (.var 1) (.var 19) 0,.var 13,.var 14,.var 15,.var 16,.var 17,.var 18])))
 (.ite (.eq (.var 11) (.int 1))
 (.ite (.lt (.int 0) (.var 12))
 (.need (.fit (.sub (.var 12) (.int 1)))
 (.need (.le (.int 0) (.sub (.var 12) (.int 1)))
 (.need (.lt (.sub (.var 12) (.int 1)) (.len (.var 0)))
 (.ite (.and (.eq (.cell (.var 0) (.sub (.var 12) (.int 1)) 1) (.var 6)) (.and (.eq (.cell (.var 0) (.sub (.var 12) (.int 1)) 2) (.var 7)) (.bool true)))
 (.ret [.var 0,.var 1,.var 2,.var 3,.var 4,.var 5,.var 6,.var 7,.var 8,.var 9,.var 10,.int 3,.var 12,.var 13,.var 14,.var 15,.var 16,.var 17,.var 18])
 (.ret [.var 0,.var 1,.var 2,.var 3,.var 4,.var 5,.var 6,.var 7,.var 8,.var 9,.var 10,.int 2,.var 12,.var 13,.var 14,.var 15,.var 16,.var 17,.var 18])))))
 (.need (.fit (.add (.var 19) (.int 1)))
 (.need (.fit (.sub (.int 0) (.add (.var 19) (.int 1))))
 (.ite (.eq (.var 12) (.sub (.int 0) (.add (.var 19) (.int 1))))
 (.ret [.var 0,.var 1,.var 2,.var 3,.var 4,.var 5,.var 6,.var 7,.var 8,.var 9,.var 10,.var 11,.var 12,.var 13,.var 14,.var 15,.var 16,.bool true,.int 5])
 (.ret [.var 0,.var 1,.var 2,.var 3,.var 4,.var 5,.var 6,.var 7,.var 8,.var 9,.var 10,.int 0,.var 12,.var 13,.var 14,.var 15,.var 16,.var 17,.var 18])))))
 (.ite (.eq (.var 11) (.int 2))
 (.ite (.lt (.int 0) (.var 12))
 (.need (.fit (.sub (.var 12) (.int 1)))
 (.need (.le (.int 0) (.sub (.var 12) (.int 1)))
 (.need (.lt (.sub (.var 12) (.int 1)) (.len (.var 0)))
 (.ret [.var 0,.var 1,.var 2,.var 3,.var 4,.var 5,.var 6,.var 7,.var 8,.var 9,.var 10,.int 1,.cell (.var 0) (.sub (.var 12) (.int 1)) 5,.var 13,.var 14,.var 15,.var 16,.var 17,.var 18]))))
 (.ret [.var 0,.var 1,.var 2,.var 3,.var 4,.var 5,.var 6,.var 7,.var 8,.var 9,.var 10,.int 0,.var 12,.var 13,.var 14,.var 15,.var 16,.var 17,.var 18]))
 (.ite (.eq (.var 11) (.int 3))
 (.ite (.lt (.int 0) (.var 12))
 (.need (.fit (.sub (.var 12) (.int 1)))
 (.call 67 [.var 0,.var 1,.var 2,.var 3,.var 4,.sub (.var 12) (.int 1)] 20
 (.ite (.not (.var 25))
 (.ret [.var 20,.var 21,.var 22,.var 23,.var 24,.var 5,.var 6,.var 7,.var 8,.var 9,.var 10,.int 0,.var 12,.var 13,.var 14,.var 15,.var 16,.var 17,.var 18])
 (.ret [.var 20,.var 21,.var 22,.var 23,.var 24,.var 5,.var 6,.var 7,.var 8,.var 9,.var 10,.int 4,.var 12,.var 13,.sub (.var 12) (.int 1),.var 15,.var 16,.var 17,.var 18]))))
 (.ret [.var 0,.var 1,.var 2,.var 3,.var 4,.var 5,.var 6,.var 7,.var 8,.var 9,.var 10,.int 0,.var 12,.var 13,.var 14,.var 15,.var 16,.var 17,.var 18]))
 (.ite (.eq (.var 11) (.int 4))
 (.ite (.le (.int 0) (.var 14))
 (.need (.lt (.var 14) (.len (.var 0)))
 (.ite (.not (.cell (.var 0) (.var 14) 4))
 (.ret [.var 0,.var 1,.var 2,.var 3,.var 4,.var 5,.var 6,.var 7,.var 8,.var 9,.var 10,.int 5,.var 12,.var 13,.var 14,.var 15,.var 16,.var 17,.var 18])
 (.ite (.not (.and (.eq (.cell (.var 0) (.var 14) 1) (.var 6)) (.and (.eq (.cell (.var 0) (.var 14) 2) (.var 7)) (.bool true))))
 (.ret [.var 0,.var 1,.var 2,.var 3,.var 4,.var 5,.var 6,.var 7,.var 8,.var 9,.var 10,.int 5,.var 12,.var 13,.var 14,.var 15,.var 16,.var 17,.var 18])
 (.ite (.lt (.var 4) (.cell (.var 0) (.var 14) 3))
 (.ret [.var 0,.var 1,.var 2,.var 3,.var 4,.var 5,.var 6,.var 7,.var 8,.var 9,.var 10,.var 11,.var 12,.var 13,.var 14,.var 15,.var 16,.bool true,.int 0])
 (.ret [.var 0,.var 1,.var 2,.var 3,.var 4,.var 5,.var 6,.var 7,.var 8,.var 9,.var 10,.int 6,.var 12,.var 13,.var 14,.var 15,.var 16,.var 17,.var 18])))))
 (.ret [.var 0,.var 1,.var 2,.var 3,.var 4,.var 5,.var 6,.var 7,.var 8,.var 9,.var 10,.int 0,.var 12,.var 13,.var 14,.var 15,.var 16,.var 17,.var 18]))
 (.ite (.eq (.var 11) (.int 5))
 (.ite (.le (.int 0) (.var 14))
 (.call 68 [.var 0,.var 1,.var 2,.var 3,.var 4,.var 14] 20
 (.ret [.var 20,.var 21,.var 22,.var 23,.var 24,.var 5,.var 6,.var 7,.var 8,.var 9,.var 10,.int 0,.var 12,.var 13,.int (-1),.var 15,.var 16,.var 17,.var 18]))
 (.ret [.var 0,.var 1,.var 2,.var 3,.var 4,.var 5,.var 6,.var 7,.var 8,.var 9,.var 10,.int 0,.var 12,.var 13,.var 14,.var 15,.var 16,.var 17,.var 18]))
 (.ite (.eq (.var 11) (.int 6))
 (.ite (.le (.int 0) (.var 14))
 (.call 68 [.var 0,.var 1,.var 2,.var 3,.var 4,.var 14] 20
 (.ret [.var 20,.var 21,.var 22,.var 23,.var 24,.var 5,.var 6,.var 7,.var 8,.var 9,.var 10,.var 11,.var 12,.var 13,.int (-1),.var 15,.var 16,.bool true,.int 5]))
 (.ret [.var 0,.var 1,.var 2,.var 3,.var 4,.var 5,.var 6,.var 7,.var 8,.var 9,.var 10,.int 0,.var 12,.var 13,.var 14,.var 15,.var 16,.var 17,.var 18]))
 (.ret [.var 0,.var 1,.var 2,.var 3,.var 4,.var 5,.var 6,.var 7,.var 8,.var 9,.var 10,.int 0,.var 12,.var 13,.var 14,.var 15,.var 16,.var 17,.var 18])))))))))
theorem run102 : run z102 6000 [.code (Try.f102.body.getD .skip),.fin (bt z102 Try.f102.results.toList 50)] { fn:=102,tmps:=z102.sig.aM ++ List.replicate (Try.f102.ntmps - z102.sig.aM.length) (.v (.one .undef)),stk:=[],h:=z102.sig.h0,nx:=z102.sig.ins.length,known:=[]}=t102:=by kernel_rfl
set_option maxHeartbeats 16000000 in
theorem ok102 : cB Try.prog 102 d102.ct:=by
 refine aD (d:=d102) (Z:=z102) (Γ:=gam l102) (fn:=Try.f102) (c:=Try.f102.body.getD .skip) (bg tok mixed (all_cons ok49 (all_cons ok67 (all_cons ok68 all_nil))) (dX (c:=Try.f182.body.getD .skip) Try.func182 (by kernel_rfl) (by kernel_rfl) (dX (c:=Try.f183.body.getD .skip) Try.func183 (by kernel_rfl) (by kernel_rfl) (dX (c:=Try.f184.body.getD .skip) Try.func184 (by kernel_rfl) (by kernel_rfl) bh)))) Try.func102 (by kernel_rfl) (by kernel_rfl) rfl run102 fun E hk hp=>?_
 obtain ⟨hk0,hk1,hk2,hk3,hk4,hk5,hk6,hk7,hk8,hk9,hk10,hk11,hk12,hk13,hk14,hk15,hk16,hk17,hk18,_⟩:=hk
 obtain ⟨m,e0,e1,e2,e3,e4,b0,b1,b2,b3⟩:=cv (d0:=E 0) (d1:=E 1) (d2:=E 2) (d3:=E 3) (d4:=E 4) hk0 hk1 hk2 hk3 hk4
 obtain ⟨f,e5,e6,e7,e8,e9,e10,e11,e12,e13,e14,e15,e16,e17,e18,b16⟩:=ja (d0:=E 5) (d1:=E 6) (d2:=E 7) (d3:=E 8) (d4:=E 9) (d5:=E 10) (d6:=E 11) (d7:=E 12) (d8:=E 13) (d9:=E 14) (d10:=E 15) (d11:=E 16) (d12:=E 17) (d13:=E 18) hk5 hk6 hk7 hk8 hk9 hk10 hk11 hk12 hk13 hk14 hk15 hk16 hk17 hk18
 have el : aH E d102.sig.ins.length=[au m.slots,af m.heads,af m.free,af m.locks,.i m.now,.i f.c.kind,.i f.c.k.a,.i f.c.k.b,.i f.c.time,.i f.c.bucket,.i f.c.slot,.i f.pc,.i f.cur,.i f.prev,.i f.slot,.i f.n,bS f.keys,.b f.done,.i f.e]:=by
  show [E 0,E 1,E 2,E 3,E 4,E 5,E 6,E 7,E 8,E 9,E 10,E 11,E 12,E 13,E 14,E 15,E 16,E 17,E 18]=_
  rw [e0,e1,e2,e3,e4,e5,e6,e7,e8,e9,e10,e11,e12,e13,e14,e15,e16,e17,e18]
 rw [el] at hp
 rw [el]
 rw [Env.bJ el]
 clear el e0 e1 e2 e3 e4 e5 e6 e7 e8 e9 e10 e11 e12 e13 e14 e15 e16 e17 e18
 rw [fn102]
 simp only [d102,mem_of,aA,List.drop_succ_cons,List.drop_zero,dJ] at hp
 obtain ⟨hm,hf,hk⟩ : aZ m∧bV m f∧f.c.kind=1:=hp
 have hb:=aQ hm hf.call (by omega)
 have gs:=hm.ns
 have g4:=hm.nh4
 have eH : ((af m.heads).rows.getD (aa m f.c).toNat []).getD 0 .u=.i (aO m (aa m f.c)):=iK (by omega)
 obtain ⟨f1,f2,f3,f4,f5,f6,f7,f8,f9,f10,f11,f12,f13⟩:=id hf
 have eN : 0 < f.cur→((au m.slots).rows.getD (f.cur - 1).toNat []).getD 5 .u=.i (at1 m f).next:=fun _=>qa (by omega)
 have eK1 : 0 < f.cur→((au m.slots).rows.getD (f.cur - 1).toNat []).getD 1 .u=.i (at1 m f).k.a:=fun _=>qc (by omega)
 have eK2 : 0 < f.cur→((au m.slots).rows.getD (f.cur - 1).toNat []).getD 2 .u=.i (at1 m f).k.b:=fun _=>qb (by omega)
 have a1 : m.slots.getD (f.cur - 1).toNat default=at1 m f:=rfl
 have a2 : m.slots.getD f.slot.toNat default=at2 m f:=rfl
 unfold t102
 repeat'
  show Tree.den _ _ _ _ _
  first
   | (with_reducible refine G0 (b:=.not (.var _)) (fun hx=>?_) (fun hx=>?_)) <;> simp only [nrm,xdn,reduceIte,Nat.reduceLT,Nat.reduceSub,Nat.reduceAdd,cG,cF,cy,cx,cE,aG,a1,a2,bX,Mem.cds,lca,Bool.not_eq_true',Bool.not_eq_false'] at hx
   | (with_reducible refine G0 (b:=.not (.cell _ _ _)) (fun hc=>?_) (fun hc=>?_)) <;> simp only [nrm,xdn,reduceIte,Nat.reduceLT,Nat.reduceSub,Nat.reduceAdd,cG,cF,cy,cx,cE,aG,a1,a2,bX,Mem.cds,lca,Bool.not_eq_true',Bool.not_eq_false'] at hc
   | (with_reducible refine G0 (fun h=>?_) (fun h=>?_)) <;> simp only [nrm,xdn,reduceIte,Nat.reduceLT,Nat.reduceSub,Nat.reduceAdd,cG,cF,cy,cx,cE,aG,a1,a2,bX,Mem.cds,lca,Bool.not_eq_true',Bool.not_eq_false'] at h <;> try first | replace h:=AW h | replace h:=AY h
   | (with_reducible refine eh ?_ ?_;· simp only [nrm,xdn,reduceIte,Nat.reduceLT,Nat.reduceSub,Nat.reduceAdd,aN,aw,bX,cG,cF,cy,cx,cE,aG,a1,a2];omega)
   | (with_reducible refine lv ?_ ?_;· simp only [nrm,xdn,reduceIte,Nat.reduceLT,Nat.reduceSub,Nat.reduceAdd,aN,aw,bX,cG,cF,cy,cx,cE,aG,a1,a2];omega)
   | (with_reducible refine G1 ?_ ?_;· simp only [nrm,xdn,reduceIte,Nat.reduceLT,Nat.reduceSub,Nat.reduceAdd,aN,aw,bX,cG,cF,cy,cx,cE,aG,a1,a2];omega)
   | with_reducible refine aj ?_
   | refine ai d49 [.i (aa m f.c)] rfl trivial (by simp only [nrm,xdn,reduceIte,Nat.reduceLT,Nat.reduceSub,Nat.reduceAdd,fn49]) ?_
   | refine ai d67 ((hold m (f.cur - 1)).1.cds ++ [.b (hold m (f.cur - 1)).2]) rfl (by simp only [nrm,xdn,reduceIte,Nat.reduceLT,Nat.reduceSub,Nat.reduceAdd];exact pi67 hm (by omega) (by omega)) (by simp only [nrm,xdn,reduceIte,Nat.reduceLT,Nat.reduceSub,Nat.reduceAdd,fn67]) ?_
   | refine ai d68 (put m f.slot).cds rfl (by simp only [nrm,xdn,reduceIte,Nat.reduceLT,Nat.reduceSub,Nat.reduceAdd];exact pi68 hm (by omega) (by omega)) (by simp only [nrm,xdn,reduceIte,Nat.reduceLT,Nat.reduceSub,Nat.reduceAdd,fn68]) ?_
 all_goals first | (exfalso;omega) | skip
 all_goals unfold ar
 all_goals repeat (first | rw [if_neg (by omega)] | rw [if_pos (by omega)] | rw [if_pos (by assumption)] | rw [if_neg (by assumption)] | rw [if_neg (ne_true_of_eq_false (by assumption))] | rw [if_pos (Or.inl (by assumption))] | rw [if_pos (Or.inr (by assumption))] | rw [if_neg (fun y=>Or.elim y (fun z=>z (by assumption)) (fun z=>Bool.false_ne_true (z.symm.trans (by assumption))))])
 all_goals try rw [sb hx]
 all_goals try rw [rX hx]
 all_goals try simp only [nrm,xdn,reduceIte,Nat.reduceLT,Nat.reduceSub,Nat.reduceAdd,Mem.cds,Frm.cds,ay,lca,CD.row,List.headD_cons,eH,cR,Bool.false_eq_true,Bool.true_eq_false]
 all_goals try simp only [nrm,xdn,reduceIte,Nat.reduceLT,Nat.reduceSub,Nat.reduceAdd,Mem.cds,Frm.cds,ay,lca,CD.row,List.headD_cons,eH,cR,Bool.false_eq_true,Bool.true_eq_false,hx]
 all_goals try simp only [nrm,xdn,reduceIte,Nat.reduceLT,Nat.reduceSub,Nat.reduceAdd,Mem.cds,Frm.cds,ay,lca,CD.row,List.headD_cons,eH,cR,Bool.false_eq_true,Bool.true_eq_false,hc]
 all_goals try simp only [nrm,xdn,reduceIte,Nat.reduceLT,Nat.reduceSub,Nat.reduceAdd,Mem.cds,Frm.cds,ay,lca,CD.row,List.headD_cons,eH,cR,Bool.false_eq_true,Bool.true_eq_false,ht]
 all_goals try simp only [nrm,xdn,reduceIte,Nat.reduceLT,Nat.reduceSub,Nat.reduceAdd,Mem.cds,Frm.cds,ay,lca,CD.row,List.headD_cons,eH,cR,Bool.false_eq_true,Bool.true_eq_false,eN (by omega),eK1 (by omega),eK2 (by omega)]
 all_goals first | (have e14 : f.slot=-1:=(by omega);simp only [e14];done) | (have e15 : f.n=1000000:=(by omega);simp only [e15];done)
end Go.Proofs.Ytpmamacjepcdmaa
