import Derived.Test.YtpmamacjepcdmaaCStepLaws
import Derived.Test.YtpmamacjepcdmaaCFit
namespace Go.Proofs.Ytpmamacjepcdmaa
open Go Go.Sy Go.RowKit
set_option linter.unusedSimpArgs false
set_option linter.unusedVariables false
def s101 : Sig:=⟨[.ptr [.own 52 kS,.own 3 kI,.own 3 kI,.own 3 kI,.int .i64],.agg [.int .i64,.int .i64,.int .i64,.int .i64,.int .i64,.int .i64,.int .i64,.int .i64,.int .i64,.int .i64,.int .i64,.fz kK,.bool,.int .i64]],[.agg [.int .i64,.int .i64,.int .i64,.int .i64,.int .i64,.int .i64,.int .i64,.int .i64,.int .i64,.int .i64,.int .i64,.fz kK,.bool,.int .i64]]⟩
def d101 : DC:=⟨s101,fun l=>aZ (Mem.of l)∧bV (Mem.of l) (Frm.of (l.drop 5))∧(Frm.of (l.drop 5)).c.kind=1,fun l=>(ar (Mem.of l) (Frm.of (l.drop 5))).2.cds ++ (ar (Mem.of l) (Frm.of (l.drop 5))).1.cds⟩
theorem fn101 (m : Mem) (f : Frm) : d101.fn [au m.slots,af m.heads,af m.free,af m.locks,.i m.now,.i f.c.kind,.i f.c.k.a,.i f.c.k.b,.i f.c.time,.i f.c.bucket,.i f.c.slot,.i f.pc,.i f.cur,.i f.prev,.i f.slot,.i f.n,bS f.keys,.b f.done,.i f.e]=(ar m f).2.cds ++ (ar m f).1.cds:=by
 simp only [d101,mem_of,aA,List.drop_succ_cons,List.drop_zero,dJ]
theorem pi101 {m : Mem} {f : Frm} (hm : aZ m) (hf : bV m f) (hk : f.c.kind=1) : d101.pre [au m.slots,af m.heads,af m.free,af m.locks,.i m.now,.i f.c.kind,.i f.c.k.a,.i f.c.k.b,.i f.c.time,.i f.c.bucket,.i f.c.slot,.i f.pc,.i f.cur,.i f.prev,.i f.slot,.i f.n,bS f.keys,.b f.done,.i f.e]:=by
 simp only [d101,mem_of,aA,List.drop_succ_cons,List.drop_zero,dJ]
 exact ⟨hm,hf,hk⟩
def l101 : List (Nat × Ct):=[(48,d48.ct),(166,d166.ct),(44,d44.ct),(167,d167.ct)]
def z101 : Cx:={ T:=ttA,C:=sigs l101,F:=[],hints:=[],sig:=s101}
def t101 : Tree :=
 (.call 48 [.var 0,.var 1,.var 2,.var 3,.var 4,.var 5,.var 6,.var 7,.var 8,.var 9,.var 10] 19
 (.ite (.eq (.var 11) (.int 2))
 (.ite (.le (.var 12) (.int 0))
 (.ret [.var 0,.var 1,.var 2,.var 3,.var 4,.var 5,.var 6,.var 7,.var 8,.var 9,.var 10,.int 0,.var 12,.var 13,.var 14,.var 15,.var 16,.var 17,.var 18])
 (.need (.fit (.sub (.var 12) (.int 1)))
 (.need (.le (.int 0) (.sub (.var 12) (.int 1)))
 (.need (.lt (.sub (.var 12) (.int 1)) (.len (.var 0)))
 (.ret [.var 0,.var 1,.var 2,.var 3,.var 4,.var 5,.var 6,.var 7,.var 8,.var 9,.var 10,.int 1,.cell (.var 0) (.sub (.var 12) (.int 1)) 5,.var 13,.var 14,.var 15,.var 16,.var 17,.var 18])))))
 (.ite (.eq (.var 11) (.int 3))
 (.ite (.le (.var 12) (.int 0))
 (.ret [.var 0,.var 1,.var 2,.var 3,.var 4,.var 5,.var 6,.var 7,.var 8,.var 9,.var 10,.int 0,.var 12,.var 13,.var 14,.var 15,.var 16,.var 17,.var 18])
 (.need (.fit (.sub (.var 12) (.int 1)))
 (.call 166 [.var 0,.var 1,.var 2,.var 3,.var 4,.sub (.var 12) (.int 1)] 20
 (.ite (.var 25)
 (.ret [.var 20,.var 21,.var 22,.var 23,.var 24,.var 5,.var 6,.var 7,.var 8,.var 9,.var 10,.int 4,.var 12,.var 13,.sub (.var 12) (.int 1),.var 15,.var 16,.var 17,.var 18])
 (.ret [.var 20,.var 21,.var 22,.var 23,.var 24,.var 5,.var 6,.var 7,.var 8,.var 9,.var 10,.int 0,.var 12,.var 13,.var 14,.var 15,.var 16,.var 17,.var 18])))))
 (.ite (.eq (.var 11) (.int 4))
 (.ite (.lt (.var 14) (.int 0))
 (.ret [.var 0,.var 1,.var 2,.var 3,.var 4,.var 5,.var 6,.var 7,.var 8,.var 9,.var 10,.int 0,.var 12,.var 13,.var 14,.var 15,.var 16,.var 17,.var 18])
 (.need (.le (.int 0) (.var 14))
 (.need (.lt (.var 14) (.len (.var 0)))
 (.ite (.not (.and (.eq (.cell (.var 0) (.var 14) 1) (.var 6)) (.and (.eq (.cell (.var 0) (.var 14) 2) (.var 7)) (.bool true))))
 (.ret [.var 0,.var 1,.var 2,.var 3,.var 4,.var 5,.var 6,.var 7,.var 8,.var 9,.var 10,.int 5,.var 12,.var 13,.var 14,.var 15,.var 16,.var 17,.var 18])
 (.ite (.not (.cell (.var 0) (.var 14) 4))
 (.ret [.var 0,.var 1,.var 2,.var 3,.var 4,.var 5,.var 6,.var 7,.var 8,.var 9,.var 10,.int 5,.var 12,.var 13,.var 14,.var 15,.var 16,.var 17,.var 18])
 (.ite (.le (.cell (.var 0) (.var 14) 3) (.var 4))
 (.ret [.var 0,.var 1,.var 2,.var 3,.var 4,.var 5,.var 6,.var 7,.var 8,.var 9,.var 10,.int 6,.var 12,.var 13,.var 14,.var 15,.var 16,.var 17,.var 18])
 (.call 44 [.var 5,.var 6,.var 7,.var 8,.var 9,.var 10,.var 11,.var 12,.var 13,.var 14,.var 15,.var 16,.var 17,.var 18,.int 0] 20
 (.ret [.var 0,.var 1,.var 2,.var 3,.var 4,.var 20,.var 21,.var 22,.var 23,.var 24,.var 25,.var 26,.var 27,.var 28,.var 29,.var 30,.var 31,.var 32,.var 33]))))))))
 (.ite (.eq (.var 11) (.int 5))
 (.ite (.lt (.var 14) (.int 0))
 (.ret [.var 0,.var 1,.var 2,.var 3,.var 4,.var 5,.var 6,.var 7,.var 8,.var 9,.var 10,.int 0,.var 12,.var 13,.var 14,.var 15,.var 16,.var 17,.var 18])
 (.call 167 [.var 0,.var 1,.var 2,.var 3,.var 4,.var 14] 20
 (.ret [.var 20,.var 21,.var 22,.var 23,.var 24,.var 5,.var 6,.var 7,.var 8,.var 9,.var 10,.int 0,.var 12,.var 13,.int (-1),.var 15,.var 16,.var 17,.var 18])))
 (.ite (.eq (.var 11) (.int 6))
 (.ite (.lt (.var 14) (.int 0))
 (.ret [.var 0,.var 1,.var 2,.var 3,.var 4,.var 5,.var 6,.var 7,.var 8,.var 9,.var 10,.int 0,.var 12,.var 13,.var 14,.var 15,.var 16,.var 17,.var 18])
 (.call 167 [.var 0,.var 1,.var 2,.var 3,.var 4,.var 14] 20
 (.call 44 [.var 5,.var 6,.var 7,.var 8,.var 9,.var 10,.var 11,.var 12,.var 13,.int (-1),.var 15,.var 16,.var 17,.var 18,.int 5] 25
 (.ret [.var 20,.var 21,.var 22,.var 23,.var 24,.var 25,.var 26,.var 27,.var 28,.var 29,.var 30,.var 31,.var 32,.var 33,.var 34,.var 35,.var 36,.var 37,.var 38]))))
 (.ite (.lt (.int 6) (.var 11))
 (.ret [.var 0,.var 1,.var 2,.var 3,.var 4,.var 5,.var 6,.var 7,.var 8,.var 9,.var 10,.int 0,.var 12,.var 13,.var 14,.var 15,.var 16,.var 17,.var 18])
 (.ite (.eq (.var 11) (.int 0))
 (.need (.le (.int 0) (.var 19))
 (.need (.lt (.var 19) (.len (.var 1)))
 (.ret [.var 0,.var 1,.var 2,.var 3,.var 4,.var 5,.var 6,.var 7,.var 8,.var 9,.var 10,.int 1,.cell (.var 1) (.var 19) 0,.var 13,.var 14,.var 15,.var 16,.var 17,.var 18])))
 (.ite (.eq (.var 11) (.int 1))
 (.need (.fit (.sub (.int (-1)) (.var 19)))
 (.ite (.eq (.var 12) (.sub (.int (-1)) (.var 19)))
 (.call 44 [.var 5,.var 6,.var 7,.var 8,.var 9,.var 10,.var 11,.var 12,.var 13,.var 14,.var 15,.var 16,.var 17,.var 18,.int 5] 20
 (.ret [.var 0,.var 1,.var 2,.var 3,.var 4,.var 20,.var 21,.var 22,.var 23,.var 24,.var 25,.var 26,.var 27,.var 28,.var 29,.var 30,.var 31,.var 32,.var 33]))
 (.ite (.le (.var 12) (.int 0))
 (.ret [.var 0,.var 1,.var 2,.var 3,.var 4,.var 5,.var 6,.var 7,.var 8,.var 9,.var 10,.int 0,.var 12,.var 13,.var 14,.var 15,.var 16,.var 17,.var 18])
 (.need (.fit (.sub (.var 12) (.int 1)))
 (.need (.le (.int 0) (.sub (.var 12) (.int 1)))
 (.need (.lt (.sub (.var 12) (.int 1)) (.len (.var 0)))
 (.ite (.and (.eq (.cell (.var 0) (.sub (.var 12) (.int 1)) 1) (.var 6)) (.and (.eq (.cell (.var 0) (.sub (.var 12) (.int 1)) 2) (.var 7)) (.bool true)))
 (.ret [.var 0,.var 1,.var 2,.var 3,.var 4,.var 5,.var 6,.var 7,.var 8,.var 9,.var 10,.int 3,.var 12,.var 13,.var 14,.var 15,.var 16,.var 17,.var 18])
 (.ret [.var 0,.var 1,.var 2,.var 3,.var 4,.var 5,.var 6,.var 7,.var 8,.var 9,.var 10,.int 2,.var 12,.var 13,.var 14,.var 15,.var 16,.var 17,.var 18]))))))))
 (.ret [.var 0,.var 1,.var 2,.var 3,.var 4,.var 5,.var 6,.var 7,.var 8,.var 9,.var 10,.var 11,.var 12,.var 13,.var 14,.var 15,.var 16,.var 17,.var 18]))))))))))
theorem run101 : run z101 6000 [.code (Try.f101.body.getD .skip),.fin (bt z101 Try.f101.results.toList 50)] { fn:=101,tmps:=z101.sig.aM ++ List.replicate (Try.f101.ntmps - z101.sig.aM.length) (.v (.one .undef)),stk:=[],h:=z101.sig.h0,nx:=z101.sig.ins.length,known:=[]}=t101:=by kernel_rfl
set_option maxHeartbeats 16000000 in
theorem ok101 : cB Try.prog 101 d101.ct:=by
 refine aD (d:=d101) (Z:=z101) (Γ:=gam l101) (fn:=Try.f101) (c:=Try.f101.body.getD .skip) (bg tok mixed (all_cons ok48 (all_cons ok166 (all_cons ok44 (all_cons ok167 all_nil)))) bh) Try.func101 (by kernel_rfl) (by kernel_rfl) rfl run101 fun E hk hp=>?_
 obtain ⟨hk0,hk1,hk2,hk3,hk4,hk5,hk6,hk7,hk8,hk9,hk10,hk11,hk12,hk13,hk14,hk15,hk16,hk17,hk18,_⟩:=hk
 obtain ⟨m,e0,e1,e2,e3,e4,b0,b1,b2,b3⟩:=cv (d0:=E 0) (d1:=E 1) (d2:=E 2) (d3:=E 3) (d4:=E 4) hk0 hk1 hk2 hk3 hk4
 obtain ⟨f,e5,e6,e7,e8,e9,e10,e11,e12,e13,e14,e15,e16,e17,e18,b16⟩:=ja (d0:=E 5) (d1:=E 6) (d2:=E 7) (d3:=E 8) (d4:=E 9) (d5:=E 10) (d6:=E 11) (d7:=E 12) (d8:=E 13) (d9:=E 14) (d10:=E 15) (d11:=E 16) (d12:=E 17) (d13:=E 18) hk5 hk6 hk7 hk8 hk9 hk10 hk11 hk12 hk13 hk14 hk15 hk16 hk17 hk18
 have el : aH E d101.sig.ins.length=[au m.slots,af m.heads,af m.free,af m.locks,.i m.now,.i f.c.kind,.i f.c.k.a,.i f.c.k.b,.i f.c.time,.i f.c.bucket,.i f.c.slot,.i f.pc,.i f.cur,.i f.prev,.i f.slot,.i f.n,bS f.keys,.b f.done,.i f.e]:=by
  show [E 0,E 1,E 2,E 3,E 4,E 5,E 6,E 7,E 8,E 9,E 10,E 11,E 12,E 13,E 14,E 15,E 16,E 17,E 18]=_
  rw [e0,e1,e2,e3,e4,e5,e6,e7,e8,e9,e10,e11,e12,e13,e14,e15,e16,e17,e18]
 rw [el] at hp
 rw [el]
 rw [Env.bJ el]
 clear el e0 e1 e2 e3 e4 e5 e6 e7 e8 e9 e10 e11 e12 e13 e14 e15 e16 e17 e18
 rw [fn101]
 simp only [d101,mem_of,aA,List.drop_succ_cons,List.drop_zero,dJ] at hp
 obtain ⟨hm,hf,hk⟩ : aZ m∧bV m f∧f.c.kind=1:=hp
 have hb:=aQ hm hf.call (by omega)
 have gs:=hm.ns
 have g4:=hm.nh4
 have eH : ((af m.heads).rows.getD (aa m f.c).toNat []).getD 0 .u=.i (aO m (aa m f.c)):=iK (by omega)
 obtain ⟨f1,f2,f3,f4,f5,f6,f7,f8,f9,f10,f11,f12,f13⟩:=id hf
 have eN : 0 < f.cur→((au m.slots).rows.getD (f.cur - 1).toNat []).getD 5 .u=.i (at1 m f).next:=fun _=>qa (by omega)
 have eK1 : 0 < f.cur→((au m.slots).rows.getD (f.cur - 1).toNat []).getD 1 .u=.i (at1 m f).k.a:=fun _=>qc (by omega)
 have eK2 : 0 < f.cur→((au m.slots).rows.getD (f.cur - 1).toNat []).getD 2 .u=.i (at1 m f).k.b:=fun _=>qb (by omega)
 have a1 : m.slots.getD (f.cur - 1).toNat default=at1 m f:=rfl
 have a2 : m.slots.getD f.slot.toNat default=at2 m f:=rfl
 unfold t101
 repeat'
  show Tree.den _ _ _ _ _
  first
   | (with_reducible refine G0 (b:=.var _) (fun hx=>?_) (fun hx=>?_)) <;> simp only [nrm,xdn,reduceIte,Nat.reduceLT,Nat.reduceSub,Nat.reduceAdd,cG,cF,cy,cx,cE,aG,a1,a2,bX,Mem.cds,lca,Bool.not_eq_true',Bool.not_eq_false'] at hx
   | (with_reducible refine G0 (b:=.not (.cell _ _ _)) (fun hc=>?_) (fun hc=>?_)) <;> simp only [nrm,xdn,reduceIte,Nat.reduceLT,Nat.reduceSub,Nat.reduceAdd,cG,cF,cy,cx,cE,aG,a1,a2,bX,Mem.cds,lca,Bool.not_eq_true',Bool.not_eq_false'] at hc
   | (with_reducible refine G0 (fun h=>?_) (fun h=>?_)) <;> simp only [nrm,xdn,reduceIte,Nat.reduceLT,Nat.reduceSub,Nat.reduceAdd,cG,cF,cy,cx,cE,aG,a1,a2,bX,Mem.cds,lca,Bool.not_eq_true',Bool.not_eq_false'] at h <;> try first | replace h:=AW h | replace h:=AY h
   | (with_reducible refine G1 ?_ ?_;· simp only [nrm,xdn,reduceIte,Nat.reduceLT,Nat.reduceSub,Nat.reduceAdd,aN,aw,bX,cG,cF,cy,cx,cE,aG,a1,a2];omega)
   | (with_reducible refine eh ?_ ?_;· simp only [nrm,xdn,reduceIte,Nat.reduceLT,Nat.reduceSub,Nat.reduceAdd,aN,aw,bX,cG,cF,cy,cx,cE,aG,a1,a2];omega)
   | (with_reducible refine lv ?_ ?_;· simp only [nrm,xdn,reduceIte,Nat.reduceLT,Nat.reduceSub,Nat.reduceAdd,aN,aw,bX,cG,cF,cy,cx,cE,aG,a1,a2];omega)
   | with_reducible refine aj ?_
   | refine ai d48 [.i (aa m f.c)] rfl trivial (by simp only [nrm,xdn,reduceIte,Nat.reduceLT,Nat.reduceSub,Nat.reduceAdd,Fa]) ?_
   | refine ai d166 ((hold m (f.cur - 1)).1.cds ++ [.b (hold m (f.cur - 1)).2]) rfl (by simp only [nrm,xdn,reduceIte,Nat.reduceLT,Nat.reduceSub,Nat.reduceAdd];exact pi166 hm (by omega) (by omega)) (by simp only [nrm,xdn,reduceIte,Nat.reduceLT,Nat.reduceSub,Nat.reduceAdd,fs166]) ?_
   | refine ai d44 (ay f 0).cds rfl trivial (by simp only [nrm,xdn,reduceIte,Nat.reduceLT,Nat.reduceSub,Nat.reduceAdd,Frm.cds,lca];exact xR f 0) ?_
   | refine ai d167 (put m f.slot).cds rfl (by simp only [nrm,xdn,reduceIte,Nat.reduceLT,Nat.reduceSub,Nat.reduceAdd];exact pi167 hm (by omega) (by omega)) (by simp only [nrm,xdn,reduceIte,Nat.reduceLT,Nat.reduceSub,Nat.reduceAdd,A6]) ?_
   | refine ai d44 (ay { f with slot:=(-1)} 5).cds rfl trivial (by simp only [nrm,xdn,reduceIte,Nat.reduceLT,Nat.reduceSub,Nat.reduceAdd,Frm.cds,lca];exact xR { f with slot:=(-1)} 5) ?_
   | refine ai d44 (ay f 5).cds rfl trivial (by simp only [nrm,xdn,reduceIte,Nat.reduceLT,Nat.reduceSub,Nat.reduceAdd,Frm.cds,lca];exact xR f 5) ?_
 all_goals first | (exfalso;omega) | skip
 all_goals unfold ar
 all_goals repeat (first | rw [if_neg (by omega)] | rw [if_pos (by omega)] | rw [if_pos (by assumption)] | rw [if_neg (by assumption)] | rw [if_neg (ne_true_of_eq_false (by assumption))] | rw [if_pos (Or.inl (by assumption))] | rw [if_pos (Or.inr (by assumption))] | rw [if_neg (fun y=>Or.elim y (fun z=>z (by assumption)) (fun z=>Bool.false_ne_true (z.symm.trans (by assumption))))])
 all_goals try rw [sb hx]
 all_goals try rw [rX hx]
 all_goals try simp only [nrm,xdn,reduceIte,Nat.reduceLT,Nat.reduceSub,Nat.reduceAdd,Mem.cds,Frm.cds,ay,lca,CD.row,List.headD_cons,eH,cR,Bool.false_eq_true,Bool.true_eq_false]
 all_goals try simp only [nrm,xdn,reduceIte,Nat.reduceLT,Nat.reduceSub,Nat.reduceAdd,Mem.cds,Frm.cds,ay,lca,CD.row,List.headD_cons,eH,cR,Bool.false_eq_true,Bool.true_eq_false,hx]
 all_goals try simp only [nrm,xdn,reduceIte,Nat.reduceLT,Nat.reduceSub,Nat.reduceAdd,Mem.cds,Frm.cds,ay,lca,CD.row,List.headD_cons,eH,cR,Bool.false_eq_true,Bool.true_eq_false,hc]
 all_goals try simp only [nrm,xdn,reduceIte,Nat.reduceLT,Nat.reduceSub,Nat.reduceAdd,Mem.cds,Frm.cds,ay,lca,CD.row,List.headD_cons,eH,cR,Bool.false_eq_true,Bool.true_eq_false,ht]
 all_goals try simp only [nrm,xdn,reduceIte,Nat.reduceLT,Nat.reduceSub,Nat.reduceAdd,Mem.cds,Frm.cds,ay,lca,CD.row,List.headD_cons,eH,cR,Bool.false_eq_true,Bool.true_eq_false,eN (by omega),eK1 (by omega),eK2 (by omega)]
 all_goals first | (have e14 : f.slot=-1:=(by omega);simp only [e14];done) | (have e15 : f.n=1000000:=(by omega);simp only [e15];done)
end Go.Proofs.Ytpmamacjepcdmaa

namespace Go.Proofs.Ytpmamacjepcdmaa
open Go Go.Sy Go.RowKit
set_option linter.unusedSimpArgs false
set_option linter.unusedVariables false
theorem Gs {m : Mem} {f : Frm} (hm : aZ m) (hf : bV m f) (hk : f.c.kind=1) (hd : (ar m f).1.done=false) : aZ (ar m f).2∧bV (ar m f).2 (ar m f).1∧(ar m f).1.c.kind=1 :=
 ⟨nI hm hf,(qV hm hf hk).ok hf mg.1 hd,by rw [(qV hm hf hk).c];exact hk⟩
theorem Gn {m : Mem} {f : Frm} (hm : aZ m) (hf : bV m f) : aZ (ar m f).2:=nI hm hf
def lF1 : Frm:=aX ⟨1,⟨3,0⟩,0,0,0⟩
def lF2 : Frm:=aX ⟨1,⟨4,0⟩,0,0,0⟩
def lA : Frm × Mem × Bool:=bZ ar 40 lF1 sM
def lB : Frm × Mem × Bool:=bZ ar 40 lF2 lA.2.1
theorem lA_ok : lA.2.2=true∧lA.1.e=0∧lA.1.slot=0∧eO lA.2.1 lF2=0:=by decide +kernel
theorem lB_ok : lB.2.2=true∧lB.1.e=5∧(msl lB.2.1 0).refs=2∧lB.2.1.slots.length=2:=by decide +kernel
theorem lf1_ok : bV sM lF1:=(mD sM lF1).1 (by decide +kernel)
def s99 : Sig:=⟨[],[.one (.bool)]⟩
def d99 : DC:=⟨s99,fun _=>True,fun _=>[.b true]⟩
def l99 : List (Nat × Ct):=[(180,d180.ct),(41,d41.ct),(101,d101.ct)]
noncomputable def z99 : Cx:={ T:=ttA,C:=sigs l99,F:=[(113,Try.f113),(181,Try.f181)],hints:=[⟨113,3,false,[(12,.lt)],[(0,0,.own 52 kS),(0,1,.own 3 kI),(0,2,.own 3 kI),(0,3,.own 3 kI),(0,4,.lt),(3,0,.lt),(3,1,.lt),(3,2,.lt),(3,3,.lt),(3,4,.lt),(3,5,.lt),(3,6,.lt),(3,7,.lt),(3,8,.lt),(3,9,.lt),(3,10,.lt),(3,11,.fz kK),(3,12,.lt),(3,13,.lt)],[],[],4,0,false⟩,⟨113,3,false,[(12,.lt)],[(0,0,.own 52 kS),(0,1,.own 3 kI),(0,2,.own 3 kI),(0,3,.own 3 kI),(0,4,.lt),(7,0,.lt),(7,1,.lt),(7,2,.lt),(7,3,.lt),(7,4,.lt),(7,5,.lt),(7,6,.lt),(7,7,.lt),(7,8,.lt),(7,9,.lt),(7,10,.lt),(7,11,.fz kK),(7,12,.lt),(7,13,.lt)],[],[],8,0,false⟩,⟨113,3,false,[(12,.lt)],[(0,0,.own 52 kS),(0,1,.own 3 kI),(0,2,.own 3 kI),(0,3,.own 3 kI),(0,4,.lt),(9,0,.lt),(9,1,.lt),(9,2,.lt),(9,3,.lt),(9,4,.lt),(9,5,.lt),(9,6,.lt),(9,7,.lt),(9,8,.lt),(9,9,.lt),(9,10,.lt),(9,11,.fz kK),(9,12,.lt),(9,13,.lt)],[],[],10,0,false⟩],sig:=s99}
def t99 : Tree :=
 (.call 180 [] 0
 (.ite (.not (.var 5))
 (.ret [.bool false])
 (.call 41 [.int 1,.int 3,.int 0,.int 0,.int 0,.int 0] 6
 (.loop 20 [.int .i64,.sl 48 [.int .i64,.int .i64,.int .i64,.int .i64,.bool,.int .i64],.sl 8 [.int .i64],.sl 8 [.int .i64],.sl 8 [.int .i64],.int .i64,.int .i64,.int .i64,.int .i64,.int .i64,.int .i64,.int .i64,.int .i64,.int .i64,.int .i64,.int .i64,.int .i64,.sl 16 [.int .i64,.int .i64],.bool,.int .i64] [.int 0,.var 0,.var 1,.var 2,.var 3,.var 4,.var 6,.var 7,.var 8,.var 9,.var 10,.var 11,.var 12,.var 13,.var 14,.var 15,.var 16,.var 17,.var 18,.var 19]
 (.ite (.lt (.var 21) (.int 40))
 (.call 101 [.var 22,.var 23,.var 24,.var 25,.var 26,.var 27,.var 28,.var 29,.var 30,.var 31,.var 32,.var 33,.var 34,.var 35,.var 36,.var 37,.var 38,.var 39,.var 40] 41
 (.ite (.var 58)
 (.call 41 [.int 1,.int 4,.int 0,.int 0,.int 0,.int 0] 60
 (.loop 74 [.int .i64,.sl 48 [.int .i64,.int .i64,.int .i64,.int .i64,.bool,.int .i64],.sl 8 [.int .i64],.sl 8 [.int .i64],.sl 8 [.int .i64],.int .i64,.int .i64,.int .i64,.int .i64,.int .i64,.int .i64,.int .i64,.int .i64,.int .i64,.int .i64,.int .i64,.int .i64,.sl 16 [.int .i64,.int .i64],.bool,.int .i64] [.int 0,.var 41,.var 42,.var 43,.var 44,.var 45,.var 60,.var 61,.var 62,.var 63,.var 64,.var 65,.var 66,.var 67,.var 68,.var 69,.var 70,.var 71,.var 72,.var 73]
 (.ite (.lt (.var 75) (.int 40))
 (.call 101 [.var 76,.var 77,.var 78,.var 79,.var 80,.var 81,.var 82,.var 83,.var 84,.var 85,.var 86,.var 87,.var 88,.var 89,.var 90,.var 91,.var 92,.var 93,.var 94] 95
 (.ite (.var 112)
 (.ite (.eq (.var 59) (.int 0))
 (.ite (.eq (.var 55) (.int 0))
 (.ite (.eq (.var 113) (.int 5))
 (.need (.lt (.int 0) (.len (.var 95)))
 (.ret [.eq (.cell (.var 95) (.int 0) 0) (.int 2)]))
 (.ret [.bool false]))
 (.ret [.bool false]))
 (.ret [.bool false]))
 (.need (.fit (.add (.var 75) (.int 1)))
 (.back 74 [.add (.var 75) (.int 1),.var 95,.var 96,.var 97,.var 98,.var 99,.var 100,.var 101,.var 102,.var 103,.var 104,.var 105,.var 106,.var 107,.var 108,.var 109,.var 110,.var 111,.var 112,.var 113]))))
 (.ret [.bool false]))))
 (.need (.fit (.add (.var 21) (.int 1)))
 (.back 20 [.add (.var 21) (.int 1),.var 41,.var 42,.var 43,.var 44,.var 45,.var 46,.var 47,.var 48,.var 49,.var 50,.var 51,.var 52,.var 53,.var 54,.var 55,.var 56,.var 57,.var 58,.var 59]))))
 (.call 41 [.int 1,.int 4,.int 0,.int 0,.int 0,.int 0] 41
 (.loop 55 [.int .i64,.sl 48 [.int .i64,.int .i64,.int .i64,.int .i64,.bool,.int .i64],.sl 8 [.int .i64],.sl 8 [.int .i64],.sl 8 [.int .i64],.int .i64,.int .i64,.int .i64,.int .i64,.int .i64,.int .i64,.int .i64,.int .i64,.int .i64,.int .i64,.int .i64,.int .i64,.sl 16 [.int .i64,.int .i64],.bool,.int .i64] [.int 0,.var 22,.var 23,.var 24,.var 25,.var 26,.var 41,.var 42,.var 43,.var 44,.var 45,.var 46,.var 47,.var 48,.var 49,.var 50,.var 51,.var 52,.var 53,.var 54]
 (.ite (.lt (.var 56) (.int 40))
 (.call 101 [.var 57,.var 58,.var 59,.var 60,.var 61,.var 62,.var 63,.var 64,.var 65,.var 66,.var 67,.var 68,.var 69,.var 70,.var 71,.var 72,.var 73,.var 74,.var 75] 76
 (.ite (.var 93)
 (.ret [.bool false])
 (.need (.fit (.add (.var 56) (.int 1)))
 (.back 55 [.add (.var 56) (.int 1),.var 76,.var 77,.var 78,.var 79,.var 80,.var 81,.var 82,.var 83,.var 84,.var 85,.var 86,.var 87,.var 88,.var 89,.var 90,.var 91,.var 92,.var 93,.var 94]))))
 (.ret [.bool false])))))))))
theorem run99 : run z99 6000 [.code (Try.f99.body.getD .skip),.fin (bt z99 Try.f99.results.toList 50)] { fn:=99,tmps:=z99.sig.aM ++ List.replicate (Try.f99.ntmps - z99.sig.aM.length) (.v (.one .undef)),stk:=[],h:=z99.sig.h0,nx:=z99.sig.ins.length,known:=[]}=t99:=by kernel_rfl
theorem ok99 : cB Try.prog 99 d99.ct:=by
 refine aD (d:=d99) (Z:=z99) (Γ:=gam l99) (fn:=Try.f99) (c:=Try.f99.body.getD .skip) (bg tok mixed (all_cons ok180 (all_cons ok41 (all_cons ok101 all_nil))) (dX (c:=Try.f113.body.getD .skip) Try.func113 (by kernel_rfl) (by kernel_rfl) (dX (c:=Try.f181.body.getD .skip) Try.func181 (by kernel_rfl) (by kernel_rfl) bh))) Try.func99 (by kernel_rfl) (by kernel_rfl) rfl run99 fun E hk hp=>?_
 clear hk
 have el : aH E d99.sig.ins.length=[]:=rfl
 rw [el] at hp
 rw [el]
 rw [Env.bJ el]
 clear el
 simp only [d99]
 unfold t99
 refine ai d180 (sM.cds ++ [.b true]) rfl trivial rfl ?_
 refine Fk (by simp only [nrm,xdn,reduceIte,Nat.reduceLT,Nat.reduceSub,Nat.reduceAdd,Mem.cds,lca];rfl) ?_
 refine ai d41 lF1.cds rfl trivial (by simp only [nrm,xdn,reduceIte,Nat.reduceLT,Nat.reduceSub,Nat.reduceAdd,Gj];rfl) ?_
 refine bO (fun ds=>∃ (i : Nat) (x : Mem) (f : Frm),ds=.i i :: (x.cds ++ f.cds)∧i≤40∧bZ ar (40 - i) f x=lA∧aZ x∧bV x f∧f.c.kind=1) (fun ds=>40 - (ds.getD 0 .u).int.toNat) ⟨0,sM,lF1,?_,by omega,rfl,sm_ok,lf1_ok,rfl⟩ ?_
 ·simp only [nrm,xdn,reduceIte,Nat.reduceLT,Nat.reduceSub,Nat.reduceAdd,Mem.cds,Frm.cds,lca];rfl
 rintro ds - ⟨i,x,f,rfl,hi,ht,hx,hf,hk⟩
 simp only [Mem.cds,Frm.cds,lca]
 refine G0 (fun hlt=>?_) (fun hge=>?_)
 ·simp only [nrm,xdn,reduceIte,Nat.reduceLT,Nat.reduceSub,Nat.reduceAdd] at hlt
  refine ai d101 ((ar x f).2.cds ++ (ar x f).1.cds) rfl (by simp only [nrm,xdn,reduceIte,Nat.reduceLT,Nat.reduceSub,Nat.reduceAdd];exact pi101 hx hf hk) (by simp only [nrm,xdn,reduceIte,Nat.reduceLT,Nat.reduceSub,Nat.reduceAdd,fn101]) ?_
  have e1 : 40 - i=40 - (i + 1) + 1:=by omega
  have hfit:=Gs hx hf hk
  have hin:=Gn hx hf
  rw [e1] at ht
  rcases hs : ar x f with ⟨g,y⟩
  rw [hs] at hfit hin
  simp only [Mem.cds,Frm.cds,lca]
  refine G0 (fun hd=>?_) (fun hd=>?_)
  ·simp only [nrm,xdn,reduceIte,Nat.reduceLT,Nat.reduceSub,Nat.reduceAdd] at hd
   rw [dm hs hd] at ht
   obtain ⟨k1,k2,k3,k4⟩:=lA_ok
   have eB : lB=bZ ar 40 lF2 y:=by unfold lB;rw [← ht]
   rw [← ht] at k1 k2 k3 k4
   refine ai d41 lF2.cds rfl trivial (by simp only [nrm,xdn,reduceIte,Nat.reduceLT,Nat.reduceSub,Nat.reduceAdd,Gj];rfl) ?_
   refine bO (fun ds=>∃ (i : Nat) (x : Mem) (f : Frm),ds=.i i :: (x.cds ++ f.cds)∧i≤40∧bZ ar (40 - i) f x=lB∧aZ x∧bV x f∧f.c.kind=1) (fun ds=>40 - (ds.getD 0 .u).int.toNat) ⟨0,y,lF2,?_,by omega,eB.symm,hin,(mD _ _).1 k4,rfl⟩ ?_
   ·simp only [nrm,xdn,reduceIte,Nat.reduceLT,Nat.reduceSub,Nat.reduceAdd,Mem.cds,Frm.cds,lca];rfl
   rintro ds - ⟨i,x,f,rfl,hi,ht,hx,hf,hk⟩
   simp only [Mem.cds,Frm.cds,lca]
   refine G0 (fun hlt=>?_) (fun hge=>?_)
   ·simp only [nrm,xdn,reduceIte,Nat.reduceLT,Nat.reduceSub,Nat.reduceAdd] at hlt
    refine ai d101 ((ar x f).2.cds ++ (ar x f).1.cds) rfl (by simp only [nrm,xdn,reduceIte,Nat.reduceLT,Nat.reduceSub,Nat.reduceAdd];exact pi101 hx hf hk) (by simp only [nrm,xdn,reduceIte,Nat.reduceLT,Nat.reduceSub,Nat.reduceAdd,fn101]) ?_
    have e1 : 40 - i=40 - (i + 1) + 1:=by omega
    have hfit:=Gs hx hf hk
    have hin:=Gn hx hf
    rw [e1] at ht
    rcases hs : ar x f with ⟨g2,y2⟩
    rw [hs] at hfit hin
    simp only [Mem.cds,Frm.cds,lca]
    refine G0 (fun hd=>?_) (fun hd=>?_)
    ·simp only [nrm,xdn,reduceIte,Nat.reduceLT,Nat.reduceSub,Nat.reduceAdd] at hd
     rw [dm hs hd] at ht
     obtain ⟨j1,j2,j3,j4⟩:=lB_ok
     rw [← ht] at j1 j2 j3 j4
     have k2 : g.e=0:=k2
     have k3 : g.slot=0:=k3
     have j2 : g2.e=5:=j2
     have j3 : (y2.slots.getD 0 default).refs=2:=j3
     have j4 : y2.slots.length=2:=j4
     refine Bf (by simp only [nrm,xdn,reduceIte,Nat.reduceLT,Nat.reduceSub,Nat.reduceAdd];exact k2) (Bf (by simp only [nrm,xdn,reduceIte,Nat.reduceLT,Nat.reduceSub,Nat.reduceAdd];exact k3) (Bf (by simp only [nrm,xdn,reduceIte,Nat.reduceLT,Nat.reduceSub,Nat.reduceAdd];exact j2) (lv (by simp only [nrm,xdn,reduceIte,Nat.reduceLT,Nat.reduceSub,Nat.reduceAdd,aN];omega) (aj ?_))))
     simp only [nrm,xdn,reduceIte,Nat.reduceLT,Nat.reduceSub,Nat.reduceAdd,cX,Int.toNat_zero,j3]
     rfl
    ·simp only [nrm,xdn,reduceIte,Nat.reduceLT,Nat.reduceSub,Nat.reduceAdd] at hd
     rw [bd hs hd] at ht
     refine G1 (by simp only [nrm,xdn,reduceIte,Nat.reduceLT,Nat.reduceSub,Nat.reduceAdd];omega) (aV ⟨⟨i + 1,y2,g2,?_,by omega,ht,hfit hd⟩,?_⟩)
     ·simp only [nrm,xdn,reduceIte,Nat.reduceLT,Nat.reduceSub,Nat.reduceAdd,Mem.cds,Frm.cds,lca];rfl
     ·simp only [nrm,xdn,reduceIte,Nat.reduceLT,Nat.reduceSub,Nat.reduceAdd];omega
   ·simp only [nrm,xdn,reduceIte,Nat.reduceLT,Nat.reduceSub,Nat.reduceAdd] at hge
    rw [show 40 - i=0 from by omega] at ht
    have:=lB_ok.1
    rw [← ht] at this
    cases this
  ·simp only [nrm,xdn,reduceIte,Nat.reduceLT,Nat.reduceSub,Nat.reduceAdd] at hd
   rw [bd hs hd] at ht
   refine G1 (by simp only [nrm,xdn,reduceIte,Nat.reduceLT,Nat.reduceSub,Nat.reduceAdd];omega) (aV ⟨⟨i + 1,y,g,?_,by omega,ht,hfit hd⟩,?_⟩)
   ·simp only [nrm,xdn,reduceIte,Nat.reduceLT,Nat.reduceSub,Nat.reduceAdd,Mem.cds,Frm.cds,lca];rfl
   ·simp only [nrm,xdn,reduceIte,Nat.reduceLT,Nat.reduceSub,Nat.reduceAdd];omega
 ·simp only [nrm,xdn,reduceIte,Nat.reduceLT,Nat.reduceSub,Nat.reduceAdd] at hge
  rw [show 40 - i=0 from by omega] at ht
  have:=lA_ok.1
  rw [← ht] at this
  cases this
end Go.Proofs.Ytpmamacjepcdmaa
