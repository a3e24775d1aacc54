import Derived.Test.YtpmamacjepcdmaaCDrop
import Derived.Test.YtpmamacjepcdmaaCFit
namespace Go.Proofs.Ytpmamacjepcdmaa
open Go Go.Sy Go.RowKit
set_option linter.unusedSimpArgs false
set_option linter.unusedVariables false
theorem pi176 {m : Mem} {a b : Int} (h1 : 0≤a) (h2 : a < m.slots.length) (h3 : 0≤b) (h4 : b < m.heads.length) : d176.pre [au m.slots,af m.heads,af m.free,af m.locks,.i m.now,.i a,.i b]:=by
 simp only [d176,mem_of,aA,List.getD_cons_zero,List.getD_cons_succ,CD.aR]
 exact ⟨h1,h2,h3,h4⟩
def s107 : Sig:=⟨[.ptr [.own 52 kS,.own 3 kI,.own 3 kI,.own 3 kI,.int .i64],.agg [.int .i64,.int .i64,.int .i64,.int .i64,.int .i64,.int .i64,.int .i64,.int .i64,.int .i64,.int .i64,.int .i64,.fz kK,.bool,.int .i64],.one (.int .i64)],[.agg [.int .i64,.int .i64,.int .i64,.int .i64,.int .i64,.int .i64,.int .i64,.int .i64,.int .i64,.int .i64,.int .i64,.fz kK,.bool,.int .i64]]⟩
def d107 : DC:=⟨s107,fun l=>aZ (Mem.of l)∧bV (Mem.of l) (Frm.of (l.drop 5))∧(Frm.of (l.drop 5)).c.kind=2,fun l=>(G3 (Mem.of l) (Frm.of (l.drop 5)) (l.getD 19 .u).int).2.cds ++ (G3 (Mem.of l) (Frm.of (l.drop 5)) (l.getD 19 .u).int).1.cds⟩
theorem fn107 (m : Mem) (f : Frm) (x : Int) : d107.fn [au m.slots,af m.heads,af m.free,af m.locks,.i m.now,.i f.c.kind,.i f.c.k.a,.i f.c.k.b,.i f.c.time,.i f.c.bucket,.i f.c.slot,.i f.pc,.i f.cur,.i f.prev,.i f.slot,.i f.n,bS f.keys,.b f.done,.i f.e,.i x]=(G3 m f x).2.cds ++ (G3 m f x).1.cds:=by
 simp only [d107,mem_of,aA,List.drop_succ_cons,List.drop_zero,dJ,List.getD_cons_zero,List.getD_cons_succ,CD.aR]
theorem pi107 {m : Mem} {f : Frm} (hm : aZ m) (hf : bV m f) (hk : f.c.kind=2) (x : Int) : d107.pre [au m.slots,af m.heads,af m.free,af m.locks,.i m.now,.i f.c.kind,.i f.c.k.a,.i f.c.k.b,.i f.c.time,.i f.c.bucket,.i f.c.slot,.i f.pc,.i f.cur,.i f.prev,.i f.slot,.i f.n,bS f.keys,.b f.done,.i f.e,.i x]:=by
 simp only [d107,mem_of,aA,List.drop_succ_cons,List.drop_zero,dJ]
 exact ⟨hm,hf,hk⟩
def l107 : List (Nat × Ct):=[(48,d48.ct),(176,d176.ct),(167,d167.ct),(162,d162.ct),(44,d44.ct),(186,d186.ct),(187,d187.ct)]
def z107 : Cx:={ T:=ttA,C:=sigs l107,F:=[],hints:=[],sig:=s107}
def t107 : Tree :=
 (.call 48 [.var 0,.var 1,.var 2,.var 3,.var 4,.var 5,.var 6,.var 7,.var 8,.var 9,.var 10] 20
 (.ite (.eq (.var 11) (.int 4))
 (.ite (.le (.var 12) (.int 0))
 (.ret [.var 0,.var 1,.var 2,.var 3,.var 4,.var 5,.var 6,.var 7,.var 8,.var 9,.var 10,.int 7,.var 12,.var 13,.var 14,.var 15,.var 16,.var 17,.int 8])
 (.need (.fit (.sub (.var 12) (.int 1)))
 (.need (.le (.int 0) (.sub (.var 12) (.int 1)))
 (.need (.lt (.sub (.var 12) (.int 1)) (.len (.var 0)))
 (.ret [.var 0,.var 1,.var 2,.var 3,.var 4,.var 5,.var 6,.var 7,.var 8,.var 9,.var 10,.int 3,.cell (.var 0) (.sub (.var 12) (.int 1)) 5,.var 13,.var 14,.var 15,.var 16,.var 17,.var 18])))))
 (.ite (.eq (.var 11) (.int 5))
 (.ite (.lt (.var 14) (.int 0))
 (.ret [.var 0,.var 1,.var 2,.var 3,.var 4,.var 5,.var 6,.var 7,.var 8,.var 9,.var 10,.int 7,.var 12,.var 13,.var 14,.var 15,.var 16,.var 17,.int 8])
 (.call 176 [.var 0,.var 1,.var 2,.var 3,.var 4,.var 14,.var 20] 21
 (.ret [.var 21,.var 22,.var 23,.var 24,.var 25,.var 5,.var 6,.var 7,.var 8,.var 9,.var 10,.int 7,.var 12,.var 13,.var 14,.var 15,.var 16,.var 17,.int 0])))
 (.ite (.eq (.var 11) (.int 6))
 (.ite (.lt (.var 14) (.int 0))
 (.ret [.var 0,.var 1,.var 2,.var 3,.var 4,.var 5,.var 6,.var 7,.var 8,.var 9,.var 10,.int 7,.var 12,.var 13,.var 14,.var 15,.var 16,.var 17,.int 8])
 (.call 167 [.var 0,.var 1,.var 2,.var 3,.var 4,.var 14] 21
 (.ret [.var 21,.var 22,.var 23,.var 24,.var 25,.var 5,.var 6,.var 7,.var 8,.var 9,.var 10,.int 7,.var 12,.var 13,.int (-1),.var 15,.var 16,.var 17,.int 6])))
 (.ite (.lt (.int 7) (.var 11))
 (.ret [.var 0,.var 1,.var 2,.var 3,.var 4,.var 5,.var 6,.var 7,.var 8,.var 9,.var 10,.int 7,.var 12,.var 13,.var 14,.var 15,.var 16,.var 17,.int 8])
 (.ite (.eq (.var 11) (.int 0))
 (.need (.fit (.add (.var 4) (.var 8)))
 (.call 162 [.var 0,.var 1,.var 2,.var 3,.var 4,.var 6,.var 7,.min (.add (.var 4) (.var 8)) (.int 2000000)] 21
 (.ite (.not (.eq (.var 27) (.int 0)))
 (.call 44 [.var 5,.var 6,.var 7,.var 8,.var 9,.var 10,.var 11,.var 12,.var 13,.var 14,.var 15,.var 16,.var 17,.var 18,.var 27] 28
 (.ret [.var 21,.var 22,.var 23,.var 24,.var 25,.var 28,.var 29,.var 30,.var 31,.var 32,.var 33,.var 34,.var 35,.var 36,.var 37,.var 38,.var 39,.var 40,.var 41]))
 (.ret [.var 21,.var 22,.var 23,.var 24,.var 25,.var 5,.var 6,.var 7,.var 8,.var 9,.var 10,.int 1,.var 12,.var 13,.var 26,.var 15,.var 16,.var 17,.var 18]))))
 (.ite (.eq (.var 11) (.int 1))
 (.call 186 [.var 0,.var 1,.var 2,.var 3,.var 4,.var 20,.var 19] 21
 (.ite (.var 26)
 (.ret [.var 21,.var 22,.var 23,.var 24,.var 25,.var 5,.var 6,.var 7,.var 8,.var 9,.var 10,.int 2,.var 12,.var 13,.var 14,.var 15,.var 16,.var 17,.var 18])
 (.ret [.var 21,.var 22,.var 23,.var 24,.var 25,.var 5,.var 6,.var 7,.var 8,.var 9,.var 10,.var 11,.var 12,.var 13,.var 14,.var 15,.var 16,.var 17,.var 18])))
 (.ite (.eq (.var 11) (.int 2))
 (.need (.le (.int 0) (.var 20))
 (.need (.lt (.var 20) (.len (.var 1)))
 (.ret [.var 0,.var 1,.var 2,.var 3,.var 4,.var 5,.var 6,.var 7,.var 8,.var 9,.var 10,.int 3,.cell (.var 1) (.var 20) 0,.var 13,.var 14,.var 15,.var 16,.var 17,.var 18])))
 (.ite (.eq (.var 11) (.int 3))
 (.ite (.le (.var 12) (.int 0))
 (.ret [.var 0,.var 1,.var 2,.var 3,.var 4,.var 5,.var 6,.var 7,.var 8,.var 9,.var 10,.int 5,.var 12,.var 13,.var 14,.var 15,.var 16,.var 17,.var 18])
 (.need (.fit (.sub (.var 12) (.int 1)))
 (.need (.le (.int 0) (.sub (.var 12) (.int 1)))
 (.need (.lt (.sub (.var 12) (.int 1)) (.len (.var 0)))
 (.ite (.and (.eq (.cell (.var 0) (.sub (.var 12) (.int 1)) 1) (.var 6)) (.and (.eq (.cell (.var 0) (.sub (.var 12) (.int 1)) 2) (.var 7)) (.bool true)))
 (.ret [.var 0,.var 1,.var 2,.var 3,.var 4,.var 5,.var 6,.var 7,.var 8,.var 9,.var 10,.int 6,.var 12,.var 13,.var 14,.var 15,.var 16,.var 17,.var 18])
 (.ret [.var 0,.var 1,.var 2,.var 3,.var 4,.var 5,.var 6,.var 7,.var 8,.var 9,.var 10,.int 4,.var 12,.var 13,.var 14,.var 15,.var 16,.var 17,.var 18]))))))
 (.ite (.eq (.var 11) (.int 7))
 (.call 187 [.var 0,.var 1,.var 2,.var 3,.var 4,.var 20,.var 19] 21
 (.call 44 [.var 5,.var 6,.var 7,.var 8,.var 9,.var 10,.var 11,.var 12,.var 13,.var 14,.var 15,.var 16,.var 17,.var 18,.var 18] 26
 (.ret [.var 21,.var 22,.var 23,.var 24,.var 25,.var 26,.var 27,.var 28,.var 29,.var 30,.var 31,.var 32,.var 33,.var 34,.var 35,.var 36,.var 37,.var 38,.var 39])))
 (.ret [.var 0,.var 1,.var 2,.var 3,.var 4,.var 5,.var 6,.var 7,.var 8,.var 9,.var 10,.var 11,.var 12,.var 13,.var 14,.var 15,.var 16,.var 17,.var 18])))))))))))
theorem run107 : run z107 6000 [.code (Try.f107.body.getD .skip),.fin (bt z107 Try.f107.results.toList 50)] { fn:=107,tmps:=z107.sig.aM ++ List.replicate (Try.f107.ntmps - z107.sig.aM.length) (.v (.one .undef)),stk:=[],h:=z107.sig.h0,nx:=z107.sig.ins.length,known:=[]}=t107:=by kernel_rfl
set_option maxHeartbeats 16000000 in
theorem ok107 : cB Try.prog 107 d107.ct:=by
 refine aD (d:=d107) (Z:=z107) (Γ:=gam l107) (fn:=Try.f107) (c:=Try.f107.body.getD .skip) (bg tok mixed (all_cons ok48 (all_cons ok176 (all_cons ok167 (all_cons ok162 (all_cons ok44 (all_cons ok186 (all_cons ok187 all_nil))))))) bh) Try.func107 (by kernel_rfl) (by kernel_rfl) rfl run107 fun E hk hp=>?_
 obtain ⟨hk0,hk1,hk2,hk3,hk4,hk5,hk6,hk7,hk8,hk9,hk10,hk11,hk12,hk13,hk14,hk15,hk16,hk17,hk18,hk19,_⟩:=hk
 obtain ⟨m,e0,e1,e2,e3,e4,b0,b1,b2,b3⟩:=cv (d0:=E 0) (d1:=E 1) (d2:=E 2) (d3:=E 3) (d4:=E 4) hk0 hk1 hk2 hk3 hk4
 obtain ⟨f,e5,e6,e7,e8,e9,e10,e11,e12,e13,e14,e15,e16,e17,e18,b16⟩:=ja (d0:=E 5) (d1:=E 6) (d2:=E 7) (d3:=E 8) (d4:=E 9) (d5:=E 10) (d6:=E 11) (d7:=E 12) (d8:=E 13) (d9:=E 14) (d10:=E 15) (d11:=E 16) (d12:=E 17) (d13:=E 18) hk5 hk6 hk7 hk8 hk9 hk10 hk11 hk12 hk13 hk14 hk15 hk16 hk17 hk18
 obtain ⟨x,e19⟩:=ok_int (d:=E 19) hk19
 have el : aH E d107.sig.ins.length=[au m.slots,af m.heads,af m.free,af m.locks,.i m.now,.i f.c.kind,.i f.c.k.a,.i f.c.k.b,.i f.c.time,.i f.c.bucket,.i f.c.slot,.i f.pc,.i f.cur,.i f.prev,.i f.slot,.i f.n,bS f.keys,.b f.done,.i f.e,.i x]:=by
  show [E 0,E 1,E 2,E 3,E 4,E 5,E 6,E 7,E 8,E 9,E 10,E 11,E 12,E 13,E 14,E 15,E 16,E 17,E 18,E 19]=_
  rw [e0,e1,e2,e3,e4,e5,e6,e7,e8,e9,e10,e11,e12,e13,e14,e15,e16,e17,e18,e19]
 rw [el] at hp
 rw [el]
 rw [Env.bJ el]
 clear el e0 e1 e2 e3 e4 e5 e6 e7 e8 e9 e10 e11 e12 e13 e14 e15 e16 e17 e18 e19
 rw [fn107]
 simp only [d107,mem_of,aA,List.drop_succ_cons,List.drop_zero,dJ] at hp
 obtain ⟨hm,hf,hk⟩ : aZ m∧bV m f∧f.c.kind=2:=hp
 have hb:=aQ hm hf.call (by omega)
 have gs:=hm.ns
 have g4:=hm.nh4
 have eH : ((af m.heads).rows.getD (aa m f.c).toNat []).getD 0 .u=.i (aO m (aa m f.c)):=iK (by omega)
 obtain ⟨f1,f2,f3,f4,f5,f6,f7,f8,f9,f10,f11,f12,f13⟩:=id hf
 have eN : 0 < f.cur→((au m.slots).rows.getD (f.cur - 1).toNat []).getD 5 .u=.i (at1 m f).next:=fun _=>qa (by omega)
 have eK1 : 0 < f.cur→((au m.slots).rows.getD (f.cur - 1).toNat []).getD 1 .u=.i (at1 m f).k.a:=fun _=>qc (by omega)
 have eK2 : 0 < f.cur→((au m.slots).rows.getD (f.cur - 1).toNat []).getD 2 .u=.i (at1 m f).k.b:=fun _=>qb (by omega)
 have a1 : m.slots.getD (f.cur - 1).toNat default=at1 m f:=rfl
 have a2 : m.slots.getD f.slot.toNat default=at2 m f:=rfl
 have gn0:=hm.ma
 have gn1:=hm.Ik
 have gt:=nv hf.call hk
 have tl : (if (2000000 : Int) < m.now + f.c.time then 2000000 else m.now + f.c.time)=bE m f:=by unfold bE;split <;> split <;> omega
 unfold t107
 repeat'
  show Tree.den _ _ _ _ _
  first
   | (with_reducible refine G0 (b:=.var _) (fun hx=>?_) (fun hx=>?_)) <;> simp only [nrm,xdn,reduceIte,Nat.reduceLT,Nat.reduceSub,Nat.reduceAdd,cG,cF,cy,cx,cE,aG,a1,a2,bX,Mem.cds,lca,Bool.not_eq_true',Bool.not_eq_false'] at hx <;> try have ht:=Aj hx
   | (with_reducible refine G0 (fun h=>?_) (fun h=>?_)) <;> simp only [nrm,xdn,reduceIte,Nat.reduceLT,Nat.reduceSub,Nat.reduceAdd,cG,cF,cy,cx,cE,aG,a1,a2,bX,Mem.cds,lca,Bool.not_eq_true',Bool.not_eq_false'] at h <;> try first | replace h:=AW h | replace h:=AY h | have ht:=Aj h
   | (with_reducible refine G1 ?_ ?_;· simp only [nrm,xdn,reduceIte,Nat.reduceLT,Nat.reduceSub,Nat.reduceAdd,aN,aw,bX,cG,cF,cy,cx,cE,aG,a1,a2];omega)
   | (with_reducible refine eh ?_ ?_;· simp only [nrm,xdn,reduceIte,Nat.reduceLT,Nat.reduceSub,Nat.reduceAdd,aN,aw,bX,cG,cF,cy,cx,cE,aG,a1,a2];omega)
   | (with_reducible refine lv ?_ ?_;· simp only [nrm,xdn,reduceIte,Nat.reduceLT,Nat.reduceSub,Nat.reduceAdd,aN,aw,bX,cG,cF,cy,cx,cE,aG,a1,a2];omega)
   | with_reducible refine aj ?_
   | refine ai d48 [.i (aa m f.c)] rfl trivial (by simp only [nrm,xdn,reduceIte,Nat.reduceLT,Nat.reduceSub,Nat.reduceAdd,Fa]) ?_
   | refine ai d176 (link m f.slot (aa m f.c)).cds rfl (by simp only [nrm,xdn,reduceIte,Nat.reduceLT,Nat.reduceSub,Nat.reduceAdd];exact pi176 (by omega) (by omega) hb.1 hb.2) (by simp only [nrm,xdn,reduceIte,Nat.reduceLT,Nat.reduceSub,Nat.reduceAdd,fn176]) ?_
   | refine ai d167 (put m f.slot).cds rfl (by simp only [nrm,xdn,reduceIte,Nat.reduceLT,Nat.reduceSub,Nat.reduceAdd];exact pi167 hm (by omega) (by omega)) (by simp only [nrm,xdn,reduceIte,Nat.reduceLT,Nat.reduceSub,Nat.reduceAdd,A6]) ?_
   | refine ai d162 ((take m f.c.k (bE m f)).1.cds ++ [.i (take m f.c.k (bE m f)).2.1,.i (take m f.c.k (bE m f)).2.2]) rfl (by simp only [nrm,xdn,reduceIte,Nat.reduceLT,Nat.reduceSub,Nat.reduceAdd];exact pi162 hm) (by simp only [nrm,xdn,reduceIte,Nat.reduceLT,Nat.reduceSub,Nat.reduceAdd,tl];exact fs162 m f.c.k (bE m f)) ?_
   | refine ai d44 (ay f 7).cds rfl trivial (by simp only [nrm,xdn,reduceIte,Nat.reduceLT,Nat.reduceSub,Nat.reduceAdd,Mem.cds,lca,ht];exact xR f 7) ?_
   | refine ai d186 ((lock m (aa m f.c) x).1.cds ++ [.b (lock m (aa m f.c) x).2]) rfl (by simp only [nrm,xdn,reduceIte,Nat.reduceLT,Nat.reduceSub,Nat.reduceAdd];exact pi186 hm hb.1 hb.2) (by simp only [nrm,xdn,reduceIte,Nat.reduceLT,Nat.reduceSub,Nat.reduceAdd,fn186]) ?_
   | refine ai d187 (unlock m (aa m f.c) x).cds rfl (by simp only [nrm,xdn,reduceIte,Nat.reduceLT,Nat.reduceSub,Nat.reduceAdd];exact pi187 hm hb.1 hb.2) (by simp only [nrm,xdn,reduceIte,Nat.reduceLT,Nat.reduceSub,Nat.reduceAdd,fn187]) ?_
   | refine ai d44 (ay f f.e).cds rfl trivial (by simp only [nrm,xdn,reduceIte,Nat.reduceLT,Nat.reduceSub,Nat.reduceAdd,Frm.cds,lca];exact xR f f.e) ?_
 all_goals first | (exfalso;omega) | skip
 all_goals unfold G3
 all_goals repeat (first | rw [if_neg (by omega)] | rw [if_pos (by omega)] | rw [if_pos (by assumption)] | rw [if_neg (by assumption)] | rw [if_neg (ne_true_of_eq_false (by assumption))] | rw [if_pos (Or.inl (by assumption))] | rw [if_pos (Or.inr (by assumption))] | rw [if_neg (fun y=>Or.elim y (fun z=>z (by assumption)) (fun z=>Bool.false_ne_true (z.symm.trans (by assumption))))])
 all_goals try rw [sb hx]
 all_goals try rw [rX hx]
 all_goals try simp only [nrm,xdn,reduceIte,Nat.reduceLT,Nat.reduceSub,Nat.reduceAdd,Mem.cds,Frm.cds,ay,lca,CD.row,List.headD_cons,eH,cR,Bool.false_eq_true,Bool.true_eq_false]
 all_goals try simp only [nrm,xdn,reduceIte,Nat.reduceLT,Nat.reduceSub,Nat.reduceAdd,Mem.cds,Frm.cds,ay,lca,CD.row,List.headD_cons,eH,cR,Bool.false_eq_true,Bool.true_eq_false,hx]
 all_goals try simp only [nrm,xdn,reduceIte,Nat.reduceLT,Nat.reduceSub,Nat.reduceAdd,Mem.cds,Frm.cds,ay,lca,CD.row,List.headD_cons,eH,cR,Bool.false_eq_true,Bool.true_eq_false,hc]
 all_goals try simp only [nrm,xdn,reduceIte,Nat.reduceLT,Nat.reduceSub,Nat.reduceAdd,Mem.cds,Frm.cds,ay,lca,CD.row,List.headD_cons,eH,cR,Bool.false_eq_true,Bool.true_eq_false,ht]
 all_goals try simp only [nrm,xdn,reduceIte,Nat.reduceLT,Nat.reduceSub,Nat.reduceAdd,Mem.cds,Frm.cds,ay,lca,CD.row,List.headD_cons,eH,cR,Bool.false_eq_true,Bool.true_eq_false,eN (by omega),eK1 (by omega),eK2 (by omega)]
 all_goals first | (have e14 : f.slot=-1:=(by omega);simp only [e14];done) | (have e15 : f.n=1000000:=(by omega);simp only [e15];done)
end Go.Proofs.Ytpmamacjepcdmaa

namespace Go.Proofs.Ytpmamacjepcdmaa
open Go Go.Sy Go.RowKit
set_option linter.unusedSimpArgs false
set_option linter.unusedVariables false
theorem GK {m : Mem} {f : Frm} (hm : aZ m) (hf : bV m f) (hk : f.c.kind=2) (hd : ((fun m f=>G3 m f 1) m f).1.done=false) : aZ ((fun m f=>G3 m f 1) m f).2∧bV ((fun m f=>G3 m f 1) m f).2 ((fun m f=>G3 m f 1) m f).1∧((fun m f=>G3 m f 1) m f).1.c.kind=2 :=
 ⟨wE 1 hm hf hk,(ud 1 hm hf hk).ok hf (gW 1 hm hf hk) hd,by rw [(ud 1 hm hf hk).c];exact hk⟩
theorem GH {m : Mem} {f : Frm} (hm : aZ m) (hf : bV m f) (hk : f.c.kind=2) : aZ ((fun m f=>G3 m f 1) m f).2:=wE 1 hm hf hk
def pF1 : Frm:=aX ⟨2,⟨3,0⟩,5,0,0⟩
def pM1 : Mem:=sM
def pR1 : Frm × Mem × Bool:=bZ (fun m f=>G3 m f 1) 40 pF1 pM1
theorem GZ : cP pM1=0∧eO pM1 pF1=0∧pR1.2.2=true∧pR1.1.e=6:=by decide +kernel
def pF2 : Frm:=aX ⟨2,⟨4,0⟩,5,0,0⟩
def pM2 : Mem:=pR1.2.1
def pR2 : Frm × Mem × Bool:=bZ (fun m f=>G3 m f 1) 40 pF2 pM2
theorem pok2 : cP pM2=0∧eO pM2 pF2=0∧pR2.2.2=true∧pR2.1.e=0∧slotsOf pR2.2.1 0=([1,0],0)∧pR2.2.1.locks=[-1]:=by decide +kernel
def s106 : Sig:=⟨[],[.one (.bool)]⟩
def d106 : DC:=⟨s106,fun _=>True,fun _=>[.b true]⟩
def l106 : List (Nat × Ct):=[(180,d180.ct),(41,d41.ct),(107,d107.ct),(70,d70.ct),(39,d39.ct)]
noncomputable def z106 : Cx:={ T:=ttA,C:=sigs l106,F:=[(113,Try.f113),(191,Try.f191)],hints:=[⟨113,3,false,[(12,.lt)],[(0,0,.own 52 kS),(0,1,.own 3 kI),(0,2,.own 3 kI),(0,3,.own 3 kI),(0,4,.lt),(3,0,.lt),(3,1,.lt),(3,2,.lt),(3,3,.lt),(3,4,.lt),(3,5,.lt),(3,6,.lt),(3,7,.lt),(3,8,.lt),(3,9,.lt),(3,10,.lt),(3,11,.fz kK),(3,12,.lt),(3,13,.lt)],[],[],4,0,false⟩,⟨113,3,false,[(12,.lt)],[(0,0,.own 52 kS),(0,1,.own 3 kI),(0,2,.own 3 kI),(0,3,.own 3 kI),(0,4,.lt),(7,0,.lt),(7,1,.lt),(7,2,.lt),(7,3,.lt),(7,4,.lt),(7,5,.lt),(7,6,.lt),(7,7,.lt),(7,8,.lt),(7,9,.lt),(7,10,.lt),(7,11,.fz kK),(7,12,.lt),(7,13,.lt)],[],[],8,0,false⟩,⟨113,3,false,[(12,.lt)],[(0,0,.own 52 kS),(0,1,.own 3 kI),(0,2,.own 3 kI),(0,3,.own 3 kI),(0,4,.lt),(9,0,.lt),(9,1,.lt),(9,2,.lt),(9,3,.lt),(9,4,.lt),(9,5,.lt),(9,6,.lt),(9,7,.lt),(9,8,.lt),(9,9,.lt),(9,10,.lt),(9,11,.fz kK),(9,12,.lt),(9,13,.lt)],[],[],10,0,false⟩],sig:=s106}
def t106 : Tree :=
 (.call 180 [] 0
 (.ite (.not (.var 5))
 (.ret [.bool false])
 (.call 41 [.int 2,.int 3,.int 0,.int 5,.int 0,.int 0] 6
 (.loop 20 [.int .i64,.sl 48 [.int .i64,.int .i64,.int .i64,.int .i64,.bool,.int .i64],.sl 8 [.int .i64],.sl 8 [.int .i64],.sl 8 [.int .i64],.int .i64,.int .i64,.int .i64,.int .i64,.int .i64,.int .i64,.int .i64,.int .i64,.int .i64,.int .i64,.int .i64,.int .i64,.sl 16 [.int .i64,.int .i64],.bool,.int .i64] [.int 0,.var 0,.var 1,.var 2,.var 3,.var 4,.var 6,.var 7,.var 8,.var 9,.var 10,.var 11,.var 12,.var 13,.var 14,.var 15,.var 16,.var 17,.var 18,.var 19]
 (.ite (.lt (.var 21) (.int 40))
 (.call 107 [.var 22,.var 23,.var 24,.var 25,.var 26,.var 27,.var 28,.var 29,.var 30,.var 31,.var 32,.var 33,.var 34,.var 35,.var 36,.var 37,.var 38,.var 39,.var 40,.int 1] 41
 (.ite (.var 58)
 (.call 41 [.int 2,.int 4,.int 0,.int 5,.int 0,.int 0] 60
 (.loop 74 [.int .i64,.sl 48 [.int .i64,.int .i64,.int .i64,.int .i64,.bool,.int .i64],.sl 8 [.int .i64],.sl 8 [.int .i64],.sl 8 [.int .i64],.int .i64,.int .i64,.int .i64,.int .i64,.int .i64,.int .i64,.int .i64,.int .i64,.int .i64,.int .i64,.int .i64,.int .i64,.sl 16 [.int .i64,.int .i64],.bool,.int .i64] [.int 0,.var 41,.var 42,.var 43,.var 44,.var 45,.var 60,.var 61,.var 62,.var 63,.var 64,.var 65,.var 66,.var 67,.var 68,.var 69,.var 70,.var 71,.var 72,.var 73]
 (.ite (.lt (.var 75) (.int 40))
 (.call 107 [.var 76,.var 77,.var 78,.var 79,.var 80,.var 81,.var 82,.var 83,.var 84,.var 85,.var 86,.var 87,.var 88,.var 89,.var 90,.var 91,.var 92,.var 93,.var 94,.int 1] 95
 (.ite (.var 112)
 (.call 70 [.var 95,.var 96,.var 97,.var 98,.var 99,.int 0] 114
 (.ite (.eq (.var 59) (.int 6))
 (.ite (.eq (.var 113) (.int 0))
 (.ite (.eq (.var 115) (.int 0))
 (.call 39 [.var 114,.app (.cons (.int 1) .row0) (.cons (.int 0) .row0)] 116
 (.ite (.var 116)
 (.need (.lt (.int 0) (.len (.var 98)))
 (.ret [.eq (.cell (.var 98) (.int 0) 0) (.int (-1))]))
 (.ret [.bool false])))
 (.ret [.bool false]))
 (.ret [.bool false]))
 (.ret [.bool false])))
 (.need (.fit (.add (.var 75) (.int 1)))
 (.back 74 [.add (.var 75) (.int 1),.var 95,.var 96,.var 97,.var 98,.var 99,.var 100,.var 101,.var 102,.var 103,.var 104,.var 105,.var 106,.var 107,.var 108,.var 109,.var 110,.var 111,.var 112,.var 113]))))
 (.call 70 [.var 76,.var 77,.var 78,.var 79,.var 80,.int 0] 95
 (.ret [.bool false])))))
 (.need (.fit (.add (.var 21) (.int 1)))
 (.back 20 [.add (.var 21) (.int 1),.var 41,.var 42,.var 43,.var 44,.var 45,.var 46,.var 47,.var 48,.var 49,.var 50,.var 51,.var 52,.var 53,.var 54,.var 55,.var 56,.var 57,.var 58,.var 59]))))
 (.call 41 [.int 2,.int 4,.int 0,.int 5,.int 0,.int 0] 41
 (.loop 55 [.int .i64,.sl 48 [.int .i64,.int .i64,.int .i64,.int .i64,.bool,.int .i64],.sl 8 [.int .i64],.sl 8 [.int .i64],.sl 8 [.int .i64],.int .i64,.int .i64,.int .i64,.int .i64,.int .i64,.int .i64,.int .i64,.int .i64,.int .i64,.int .i64,.int .i64,.int .i64,.sl 16 [.int .i64,.int .i64],.bool,.int .i64] [.int 0,.var 22,.var 23,.var 24,.var 25,.var 26,.var 41,.var 42,.var 43,.var 44,.var 45,.var 46,.var 47,.var 48,.var 49,.var 50,.var 51,.var 52,.var 53,.var 54]
 (.ite (.lt (.var 56) (.int 40))
 (.call 107 [.var 57,.var 58,.var 59,.var 60,.var 61,.var 62,.var 63,.var 64,.var 65,.var 66,.var 67,.var 68,.var 69,.var 70,.var 71,.var 72,.var 73,.var 74,.var 75,.int 1] 76
 (.ite (.var 93)
 (.call 70 [.var 76,.var 77,.var 78,.var 79,.var 80,.int 0] 95
 (.ret [.bool false]))
 (.need (.fit (.add (.var 56) (.int 1)))
 (.back 55 [.add (.var 56) (.int 1),.var 76,.var 77,.var 78,.var 79,.var 80,.var 81,.var 82,.var 83,.var 84,.var 85,.var 86,.var 87,.var 88,.var 89,.var 90,.var 91,.var 92,.var 93,.var 94]))))
 (.call 70 [.var 57,.var 58,.var 59,.var 60,.var 61,.int 0] 76
 (.ret [.bool false]))))))))))
theorem run106 : run z106 6000 [.code (Try.f106.body.getD .skip),.fin (bt z106 Try.f106.results.toList 50)] { fn:=106,tmps:=z106.sig.aM ++ List.replicate (Try.f106.ntmps - z106.sig.aM.length) (.v (.one .undef)),stk:=[],h:=z106.sig.h0,nx:=z106.sig.ins.length,known:=[]}=t106:=by kernel_rfl
theorem ok106 : cB Try.prog 106 d106.ct:=by
 refine aD (d:=d106) (Z:=z106) (Γ:=gam l106) (fn:=Try.f106) (c:=Try.f106.body.getD .skip) (bg tok mixed (all_cons ok180 (all_cons ok41 (all_cons ok107 (all_cons ok70 (all_cons ok39 all_nil))))) (dX (c:=Try.f113.body.getD .skip) Try.func113 (by kernel_rfl) (by kernel_rfl) (dX (c:=Try.f191.body.getD .skip) Try.func191 (by kernel_rfl) (by kernel_rfl) bh))) Try.func106 (by kernel_rfl) (by kernel_rfl) rfl run106 fun E hk hp=>?_
 clear hk
 have el : aH E d106.sig.ins.length=[]:=rfl
 rw [el] at hp
 rw [el]
 rw [Env.bJ el]
 clear el
 simp only [d106]
 unfold t106
 refine ai d180 (sM.cds ++ [.b true]) rfl trivial rfl ?_
 refine Fk (by simp only [nrm,xdn,reduceIte,Nat.reduceLT,Nat.reduceSub,Nat.reduceAdd,Mem.cds,lca];rfl) ?_
 refine ai d41 pF1.cds rfl trivial (by simp only [nrm,xdn,reduceIte,Nat.reduceLT,Nat.reduceSub,Nat.reduceAdd,Gj];rfl) ?_
 refine bO (fun ds=>∃ (i : Nat) (x : Mem) (f : Frm),ds=.i i :: (x.cds ++ f.cds)∧i≤40∧bZ (fun m f=>G3 m f 1) (40 - i) f x=pR1∧aZ x∧bV x f∧f.c.kind=2) (fun ds=>40 - (ds.getD 0 .u).int.toNat) ⟨0,pM1,pF1,?_,by omega,rfl,((dT _).1 (GZ.1)).rJ,(mD _ _).1 (GZ.2.1),rfl⟩ ?_
 ·simp only [nrm,xdn,reduceIte,Nat.reduceLT,Nat.reduceSub,Nat.reduceAdd,Mem.cds,Frm.cds,lca];rfl
 rintro ds - ⟨i,x,f,rfl,hi,ht,hx,hf,hk⟩
 simp only [Mem.cds,Frm.cds,lca]
 refine G0 (fun hlt=>?_) (fun hge=>?_)
 ·simp only [nrm,xdn,reduceIte,Nat.reduceLT,Nat.reduceSub,Nat.reduceAdd] at hlt
  refine ai d107 (((fun m f=>G3 m f 1) x f).2.cds ++ ((fun m f=>G3 m f 1) x f).1.cds) rfl (by simp only [nrm,xdn,reduceIte,Nat.reduceLT,Nat.reduceSub,Nat.reduceAdd];exact pi107 hx hf hk 1) (by simp only [nrm,xdn,reduceIte,Nat.reduceLT,Nat.reduceSub,Nat.reduceAdd,fn107]) ?_
  have e1 : 40 - i=40 - (i + 1) + 1:=by omega
  have hfit:=GK hx hf hk
  have hin:=GH hx hf hk
  rw [e1] at ht
  rcases hs : (fun m f=>G3 m f 1) x f with ⟨g1,y1⟩
  rw [hs] at hfit hin
  simp only [Mem.cds,Frm.cds,lca]
  refine G0 (fun hd=>?_) (fun hd=>?_)
  ·simp only [nrm,xdn,reduceIte,Nat.reduceLT,Nat.reduceSub,Nat.reduceAdd] at hd
   rw [dm hs hd] at ht
   have ht1:=ht
   clear hlt e1 hfit hs hd ht hx hf hk hi
   have eM2 : pM2=y1:=by show pR1.2.1=_;rw [← ht1]
   have okk2:=pok2
   rw [eM2] at okk2
   refine ai d41 pF2.cds rfl trivial (by simp only [nrm,xdn,reduceIte,Nat.reduceLT,Nat.reduceSub,Nat.reduceAdd,Gj];rfl) ?_
   refine bO (fun ds=>∃ (i : Nat) (x : Mem) (f : Frm),ds=.i i :: (x.cds ++ f.cds)∧i≤40∧bZ (fun m f=>G3 m f 1) (40 - i) f x=pR2∧aZ x∧bV x f∧f.c.kind=2) (fun ds=>40 - (ds.getD 0 .u).int.toNat) ⟨0,y1,pF2,?_,by omega,(by show _=bZ (fun m f=>G3 m f 1) 40 pF2 pM2;rw [eM2]),((dT _).1 (okk2.1)).rJ,(mD _ _).1 (okk2.2.1),rfl⟩ ?_
   ·simp only [nrm,xdn,reduceIte,Nat.reduceLT,Nat.reduceSub,Nat.reduceAdd,Mem.cds,Frm.cds,lca];rfl
   rintro ds - ⟨i,x,f,rfl,hi,ht,hx,hf,hk⟩
   simp only [Mem.cds,Frm.cds,lca]
   refine G0 (fun hlt=>?_) (fun hge=>?_)
   ·simp only [nrm,xdn,reduceIte,Nat.reduceLT,Nat.reduceSub,Nat.reduceAdd] at hlt
    refine ai d107 (((fun m f=>G3 m f 1) x f).2.cds ++ ((fun m f=>G3 m f 1) x f).1.cds) rfl (by simp only [nrm,xdn,reduceIte,Nat.reduceLT,Nat.reduceSub,Nat.reduceAdd];exact pi107 hx hf hk 1) (by simp only [nrm,xdn,reduceIte,Nat.reduceLT,Nat.reduceSub,Nat.reduceAdd,fn107]) ?_
    have e1 : 40 - i=40 - (i + 1) + 1:=by omega
    have hfit:=GK hx hf hk
    have hin:=GH hx hf hk
    rw [e1] at ht
    rcases hs : (fun m f=>G3 m f 1) x f with ⟨g2,y2⟩
    rw [hs] at hfit hin
    simp only [Mem.cds,Frm.cds,lca]
    refine G0 (fun hd=>?_) (fun hd=>?_)
    ·simp only [nrm,xdn,reduceIte,Nat.reduceLT,Nat.reduceSub,Nat.reduceAdd] at hd
     rw [dm hs hd] at ht
     have ht2:=ht
     clear hlt e1 hfit hs hd ht hx hf hk hi
     have k1 : g1.e=6:=by have:=GZ.2.2.2;rw [← ht1] at this;exact this
     have k2 : g2.e=0∧slotsOf y2 0=([1,0],0)∧y2.locks=[-1]:=by have:=pok2.2.2.2;rw [← ht2] at this;exact this
     refine ai d70 [af [1,0],.i 0] rfl trivial (by simp only [nrm,xdn,reduceIte,Nat.reduceLT,Nat.reduceSub,Nat.reduceAdd,fn70,k2.2.1]) ?_
     refine Bf (by simp only [nrm,xdn,reduceIte,Nat.reduceLT,Nat.reduceSub,Nat.reduceAdd];exact k1) (Bf (by simp only [nrm,xdn,reduceIte,Nat.reduceLT,Nat.reduceSub,Nat.reduceAdd];exact k2.1) (Bf (by simp only [nrm,xdn,reduceIte,Nat.reduceLT,Nat.reduceSub,Nat.reduceAdd]) ?_))
     refine ai d39 [.b true] rfl trivial (by simp only [nrm,xdn,reduceIte,Nat.reduceLT,Nat.reduceSub,Nat.reduceAdd];kernel_rfl) (Bf rfl (lv (by simp only [nrm,xdn,reduceIte,Nat.reduceLT,Nat.reduceSub,Nat.reduceAdd,k2.2.2];decide) (aj ?_)))
     simp only [nrm,xdn,reduceIte,Nat.reduceLT,Nat.reduceSub,Nat.reduceAdd,k2.2.2]
     rfl
    ·simp only [nrm,xdn,reduceIte,Nat.reduceLT,Nat.reduceSub,Nat.reduceAdd] at hd
     rw [bd hs hd] at ht
     refine G1 (by simp only [nrm,xdn,reduceIte,Nat.reduceLT,Nat.reduceSub,Nat.reduceAdd];omega) (aV ⟨⟨i + 1,y2,g2,?_,by omega,ht,hfit hd⟩,?_⟩)
     ·simp only [nrm,xdn,reduceIte,Nat.reduceLT,Nat.reduceSub,Nat.reduceAdd,Mem.cds,Frm.cds,lca];rfl
     ·simp only [nrm,xdn,reduceIte,Nat.reduceLT,Nat.reduceSub,Nat.reduceAdd];omega
   ·simp only [nrm,xdn,reduceIte,Nat.reduceLT,Nat.reduceSub,Nat.reduceAdd] at hge
    rw [show 40 - i=0 from by omega] at ht
    have:=pok2.2.2.1
    rw [← ht] at this
    cases this
  ·simp only [nrm,xdn,reduceIte,Nat.reduceLT,Nat.reduceSub,Nat.reduceAdd] at hd
   rw [bd hs hd] at ht
   refine G1 (by simp only [nrm,xdn,reduceIte,Nat.reduceLT,Nat.reduceSub,Nat.reduceAdd];omega) (aV ⟨⟨i + 1,y1,g1,?_,by omega,ht,hfit hd⟩,?_⟩)
   ·simp only [nrm,xdn,reduceIte,Nat.reduceLT,Nat.reduceSub,Nat.reduceAdd,Mem.cds,Frm.cds,lca];rfl
   ·simp only [nrm,xdn,reduceIte,Nat.reduceLT,Nat.reduceSub,Nat.reduceAdd];omega
 ·simp only [nrm,xdn,reduceIte,Nat.reduceLT,Nat.reduceSub,Nat.reduceAdd] at hge
  rw [show 40 - i=0 from by omega] at ht
  have:=GZ.2.2.1
  rw [← ht] at this
  cases this
end Go.Proofs.Ytpmamacjepcdmaa
