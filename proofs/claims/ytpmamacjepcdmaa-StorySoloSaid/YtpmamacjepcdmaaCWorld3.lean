import Derived.Test.YtpmamacjepcdmaaCAdd
import Derived.Test.YtpmamacjepcdmaaCWorld2
namespace Go.Proofs.Ytpmamacjepcdmaa
open Go Go.Sy Go.RowKit
set_option linter.unusedSimpArgs false
set_option linter.unusedVariables false
def s104 : Sig:=⟨[.ptr [.own 52 kS,.own 3 kI,.own 3 kI,.own 3 kI,.int .i64],.agg [.int .i64,.int .i64,.int .i64,.int .i64,.int .i64,.int .i64,.int .i64,.int .i64,.int .i64,.int .i64,.int .i64,.fz kK,.bool,.int .i64],.one (.int .i64)],[.agg [.int .i64,.int .i64,.int .i64,.int .i64,.int .i64,.int .i64,.int .i64,.int .i64,.int .i64,.int .i64,.int .i64,.fz kK,.bool,.int .i64]]⟩
def d104 : DC:=⟨s104,fun l=>aZ (Mem.of l)∧bV (Mem.of l) (Frm.of (l.drop 5))∧(Frm.of (l.drop 5)).c.kind=3,fun l=>(aL (Mem.of l) (Frm.of (l.drop 5)) (l.getD 19 .u).int).2.cds ++ (aL (Mem.of l) (Frm.of (l.drop 5)) (l.getD 19 .u).int).1.cds⟩
theorem fn104 (m : Mem) (f : Frm) (x : Int) : d104.fn [au m.slots,af m.heads,af m.free,af m.ae,.i m.now,.i f.c.kind,.i f.c.k.a,.i f.c.k.b,.i f.c.time,.i f.c.bucket,.i f.c.slot,.i f.pc,.i f.cur,.i f.prev,.i f.slot,.i f.n,bS f.keys,.b f.done,.i f.e,.i x]=(aL m f x).2.cds ++ (aL m f x).1.cds:=by
 simp only [d104,mem_of,aA,List.drop_succ_cons,List.drop_zero,dJ,List.getD_cons_zero,List.getD_cons_succ,CD.aR]
theorem pi104 {m : Mem} {f : Frm} (hm : aZ m) (hf : bV m f) (hk : f.c.kind=3) (x : Int) : d104.pre [au m.slots,af m.heads,af m.free,af m.ae,.i m.now,.i f.c.kind,.i f.c.k.a,.i f.c.k.b,.i f.c.time,.i f.c.bucket,.i f.c.slot,.i f.pc,.i f.cur,.i f.prev,.i f.slot,.i f.n,bS f.keys,.b f.done,.i f.e,.i x]:=by
 simp only [d104,mem_of,aA,List.drop_succ_cons,List.drop_zero,dJ]
 exact ⟨hm,hf,hk⟩
def l104 : List (Nat × Ct):=[(48,d48.ct),(177,d177.ct),(186,d186.ct),(187,d187.ct),(167,d167.ct),(44,d44.ct)]
def z104 : Cx:={ T:=ttA,C:=sigs l104,F:=[],hints:=[],sig:=s104}
def t104 : Tree :=
 (.call 48 [.var 0,.var 1,.var 2,.var 3,.var 4,.var 5,.var 6,.var 7,.var 8,.var 9,.var 10] 20
 (.ite (.eq (.var 11) (.int 3))
 (.ite (.le (.var 12) (.int 0))
 (.ret [.var 0,.var 1,.var 2,.var 3,.var 4,.var 5,.var 6,.var 7,.var 8,.var 9,.var 10,.int 5,.var 12,.var 13,.var 14,.var 15,.var 16,.var 17,.int 8])
 (.need (.fit (.sub (.var 12) (.int 1)))
 (.need (.le (.int 0) (.sub (.var 12) (.int 1)))
 (.need (.lt (.sub (.var 12) (.int 1)) (.len (.var 0)))
 (.ret [.var 0,.var 1,.var 2,.var 3,.var 4,.var 5,.var 6,.var 7,.var 8,.var 9,.var 10,.int 2,.cell (.var 0) (.sub (.var 12) (.int 1)) 5,.var 12,.var 14,.var 15,.var 16,.var 17,.var 18])))))
 (.ite (.eq (.var 11) (.int 4))
 (.ite (.le (.var 12) (.int 0))
 (.ret [.var 0,.var 1,.var 2,.var 3,.var 4,.var 5,.var 6,.var 7,.var 8,.var 9,.var 10,.int 5,.var 12,.var 13,.var 14,.var 15,.var 16,.var 17,.int 8])
 (.need (.fit (.sub (.var 12) (.int 1)))
 (.call 177 [.var 0,.var 1,.var 2,.var 3,.var 4,.var 13,.sub (.var 12) (.int 1),.var 20] 21
 (.ret [.var 21,.var 22,.var 23,.var 24,.var 25,.var 5,.var 6,.var 7,.var 8,.var 9,.var 10,.int 5,.var 12,.var 13,.sub (.var 12) (.int 1),.var 15,.var 16,.var 17,.int 0]))))
 (.ite (.lt (.int 6) (.var 11))
 (.ret [.var 0,.var 1,.var 2,.var 3,.var 4,.var 5,.var 6,.var 7,.var 8,.var 9,.var 10,.int 5,.var 12,.var 13,.var 14,.var 15,.var 16,.var 17,.int 8])
 (.ite (.eq (.var 11) (.int 0))
 (.call 186 [.var 0,.var 1,.var 2,.var 3,.var 4,.var 20,.var 19] 21
 (.ite (.var 26)
 (.ret [.var 21,.var 22,.var 23,.var 24,.var 25,.var 5,.var 6,.var 7,.var 8,.var 9,.var 10,.int 1,.var 12,.var 13,.var 14,.var 15,.var 16,.var 17,.var 18])
 (.ret [.var 21,.var 22,.var 23,.var 24,.var 25,.var 5,.var 6,.var 7,.var 8,.var 9,.var 10,.var 11,.var 12,.var 13,.var 14,.var 15,.var 16,.var 17,.var 18])))
 (.ite (.eq (.var 11) (.int 1))
 (.need (.le (.int 0) (.var 20))
 (.need (.lt (.var 20) (.len (.var 1)))
 (.ret [.var 0,.var 1,.var 2,.var 3,.var 4,.var 5,.var 6,.var 7,.var 8,.var 9,.var 10,.int 2,.cell (.var 1) (.var 20) 0,.int 0,.var 14,.var 15,.var 16,.var 17,.var 18])))
 (.ite (.eq (.var 11) (.int 2))
 (.ite (.le (.var 12) (.int 0))
 (.ret [.var 0,.var 1,.var 2,.var 3,.var 4,.var 5,.var 6,.var 7,.var 8,.var 9,.var 10,.int 5,.var 12,.var 13,.var 14,.var 15,.var 16,.var 17,.int 5])
 (.need (.fit (.sub (.var 12) (.int 1)))
 (.need (.le (.int 0) (.sub (.var 12) (.int 1)))
 (.need (.lt (.sub (.var 12) (.int 1)) (.len (.var 0)))
 (.ite (.and (.eq (.cell (.var 0) (.sub (.var 12) (.int 1)) 1) (.var 6)) (.and (.eq (.cell (.var 0) (.sub (.var 12) (.int 1)) 2) (.var 7)) (.bool true)))
 (.ret [.var 0,.var 1,.var 2,.var 3,.var 4,.var 5,.var 6,.var 7,.var 8,.var 9,.var 10,.int 4,.var 12,.var 13,.var 14,.var 15,.var 16,.var 17,.var 18])
 (.ret [.var 0,.var 1,.var 2,.var 3,.var 4,.var 5,.var 6,.var 7,.var 8,.var 9,.var 10,.int 3,.var 12,.var 13,.var 14,.var 15,.var 16,.var 17,.var 18]))))))
 (.ite (.eq (.var 11) (.int 5))
 (.call 187 [.var 0,.var 1,.var 2,.var 3,.var 4,.var 20,.var 19] 21
 (.ret [.var 21,.var 22,.var 23,.var 24,.var 25,.var 5,.var 6,.var 7,.var 8,.var 9,.var 10,.int 6,.var 12,.var 13,.var 14,.var 15,.var 16,.var 17,.var 18]))
 (.ite (.eq (.var 11) (.int 6))
 (.ite (.le (.int 0) (.var 14))
 (.call 167 [.var 0,.var 1,.var 2,.var 3,.var 4,.var 14] 21
 (.call 44 [.var 5,.var 6,.var 7,.var 8,.var 9,.var 10,.var 11,.var 12,.var 13,.int (-1),.var 15,.var 16,.var 17,.var 18,.var 18] 26
 (.ret [.var 21,.var 22,.var 23,.var 24,.var 25,.var 26,.var 27,.var 28,.var 29,.var 30,.var 31,.var 32,.var 33,.var 34,.var 35,.var 36,.var 37,.var 38,.var 39])))
 (.call 44 [.var 5,.var 6,.var 7,.var 8,.var 9,.var 10,.var 11,.var 12,.var 13,.var 14,.var 15,.var 16,.var 17,.var 18,.var 18] 21
 (.ret [.var 0,.var 1,.var 2,.var 3,.var 4,.var 21,.var 22,.var 23,.var 24,.var 25,.var 26,.var 27,.var 28,.var 29,.var 30,.var 31,.var 32,.var 33,.var 34])))
 (.ret [.var 0,.var 1,.var 2,.var 3,.var 4,.var 5,.var 6,.var 7,.var 8,.var 9,.var 10,.var 11,.var 12,.var 13,.var 14,.var 15,.var 16,.var 17,.var 18]))))))))))
theorem run104 : run z104 6000 [.code (Try.f104.body.getD .skip),.fin (bt z104 Try.f104.results.toList 50)] { fn:=104,tmps:=z104.sig.aM ++ List.replicate (Try.f104.ntmps - z104.sig.aM.length) (.v (.one .undef)),stk:=[],h:=z104.sig.h0,nx:=z104.sig.ins.length,known:=[]}=t104:=by kernel_rfl
set_option maxHeartbeats 16000000 in
theorem ok104 : cB Try.prog 104 d104.ct:=by
 refine aD (d:=d104) (Z:=z104) (Γ:=gam l104) (fn:=Try.f104) (c:=Try.f104.body.getD .skip) (bg tok mixed (all_cons ok48 (all_cons ok177 (all_cons ok186 (all_cons ok187 (all_cons ok167 (all_cons ok44 all_nil)))))) bh) Try.func104 (by kernel_rfl) (by kernel_rfl) rfl run104 fun E hk hp=>?_
 obtain ⟨hk0,hk1,hk2,hk3,hk4,hk5,hk6,hk7,hk8,hk9,hk10,hk11,hk12,hk13,hk14,hk15,hk16,hk17,hk18,hk19,_⟩:=hk
 obtain ⟨m,e0,e1,e2,e3,e4,b0,b1,b2,b3⟩:=cv (d0:=E 0) (d1:=E 1) (d2:=E 2) (d3:=E 3) (d4:=E 4) hk0 hk1 hk2 hk3 hk4
 obtain ⟨f,e5,e6,e7,e8,e9,e10,e11,e12,e13,e14,e15,e16,e17,e18,b16⟩:=ja (d0:=E 5) (d1:=E 6) (d2:=E 7) (d3:=E 8) (d4:=E 9) (d5:=E 10) (d6:=E 11) (d7:=E 12) (d8:=E 13) (d9:=E 14) (d10:=E 15) (d11:=E 16) (d12:=E 17) (d13:=E 18) hk5 hk6 hk7 hk8 hk9 hk10 hk11 hk12 hk13 hk14 hk15 hk16 hk17 hk18
 obtain ⟨x,e19⟩:=ok_int (d:=E 19) hk19
 have el : aH E d104.sig.ins.length=[au m.slots,af m.heads,af m.free,af m.ae,.i m.now,.i f.c.kind,.i f.c.k.a,.i f.c.k.b,.i f.c.time,.i f.c.bucket,.i f.c.slot,.i f.pc,.i f.cur,.i f.prev,.i f.slot,.i f.n,bS f.keys,.b f.done,.i f.e,.i x]:=by
  show [E 0,E 1,E 2,E 3,E 4,E 5,E 6,E 7,E 8,E 9,E 10,E 11,E 12,E 13,E 14,E 15,E 16,E 17,E 18,E 19]=_
  rw [e0,e1,e2,e3,e4,e5,e6,e7,e8,e9,e10,e11,e12,e13,e14,e15,e16,e17,e18,e19]
 rw [el] at hp
 rw [el]
 rw [Env.bJ el]
 clear el e0 e1 e2 e3 e4 e5 e6 e7 e8 e9 e10 e11 e12 e13 e14 e15 e16 e17 e18 e19
 rw [fn104]
 simp only [d104,mem_of,aA,List.drop_succ_cons,List.drop_zero,dJ] at hp
 obtain ⟨hm,hf,hk⟩ : aZ m∧bV m f∧f.c.kind=3:=hp
 have hb:=aQ hm hf.call (by omega)
 have gs:=hm.ns
 have g4:=hm.nh4
 have eH : ((af m.heads).rows.getD (aa m f.c).toNat []).getD 0 .u=.i (aO m (aa m f.c)):=iK (by omega)
 obtain ⟨f1,f2,f3,f4,f5,f6,f7,f8,f9,f10,f11,f12,f13⟩:=id hf
 have eN : 0 < f.cur→((au m.slots).rows.getD (f.cur - 1).toNat []).getD 5 .u=.i (at1 m f).next:=fun _=>qa (by omega)
 have eK1 : 0 < f.cur→((au m.slots).rows.getD (f.cur - 1).toNat []).getD 1 .u=.i (at1 m f).k.a:=fun _=>qc (by omega)
 have eK2 : 0 < f.cur→((au m.slots).rows.getD (f.cur - 1).toNat []).getD 2 .u=.i (at1 m f).k.b:=fun _=>qb (by omega)
 have a1 : m.slots.getD (f.cur - 1).toNat default=at1 m f:=rfl
 have a2 : m.slots.getD f.slot.toNat default=at2 m f:=rfl
 unfold t104
 repeat'
  show Tree.den _ _ _ _ _
  first
   | (with_reducible refine G0 (b:=.var _) (fun hx=>?_) (fun hx=>?_)) <;> simp only [nrm,xdn,reduceIte,Nat.reduceLT,Nat.reduceSub,Nat.reduceAdd,cG,cF,cy,cx,cE,aG,a1,a2,bX,Mem.cds,lca,Bool.not_eq_true',Bool.not_eq_false'] at hx
   | (with_reducible refine G0 (fun h=>?_) (fun h=>?_)) <;> simp only [nrm,xdn,reduceIte,Nat.reduceLT,Nat.reduceSub,Nat.reduceAdd,cG,cF,cy,cx,cE,aG,a1,a2,bX,Mem.cds,lca,Bool.not_eq_true',Bool.not_eq_false'] at h <;> try first | replace h:=AW h | replace h:=AY h
   | (with_reducible refine G1 ?_ ?_;· simp only [nrm,xdn,reduceIte,Nat.reduceLT,Nat.reduceSub,Nat.reduceAdd,aN,aw,bX,cG,cF,cy,cx,cE,aG,a1,a2];omega)
   | (with_reducible refine eh ?_ ?_;· simp only [nrm,xdn,reduceIte,Nat.reduceLT,Nat.reduceSub,Nat.reduceAdd,aN,aw,bX,cG,cF,cy,cx,cE,aG,a1,a2];omega)
   | (with_reducible refine lv ?_ ?_;· simp only [nrm,xdn,reduceIte,Nat.reduceLT,Nat.reduceSub,Nat.reduceAdd,aN,aw,bX,cG,cF,cy,cx,cE,aG,a1,a2];omega)
   | with_reducible refine aj ?_
   | refine ai d48 [.i (aa m f.c)] rfl trivial (by simp only [nrm,xdn,reduceIte,Nat.reduceLT,Nat.reduceSub,Nat.reduceAdd,Fa]) ?_
   | refine ai d177 (cut m f.prev (f.cur - 1) (aa m f.c)).cds rfl (by simp only [nrm,xdn,reduceIte,Nat.reduceLT,Nat.reduceSub,Nat.reduceAdd];exact pre177 (by omega) (by omega) (by omega) hb.1 hb.2) (by simp only [nrm,xdn,reduceIte,Nat.reduceLT,Nat.reduceSub,Nat.reduceAdd,fn177]) ?_
   | refine ai d186 ((lock m (aa m f.c) x).1.cds ++ [.b (lock m (aa m f.c) x).2]) rfl (by simp only [nrm,xdn,reduceIte,Nat.reduceLT,Nat.reduceSub,Nat.reduceAdd];exact pi186 hm hb.1 hb.2) (by simp only [nrm,xdn,reduceIte,Nat.reduceLT,Nat.reduceSub,Nat.reduceAdd,fn186]) ?_
   | refine ai d187 (unlock m (aa m f.c) x).cds rfl (by simp only [nrm,xdn,reduceIte,Nat.reduceLT,Nat.reduceSub,Nat.reduceAdd];exact pi187 hm hb.1 hb.2) (by simp only [nrm,xdn,reduceIte,Nat.reduceLT,Nat.reduceSub,Nat.reduceAdd,fn187]) ?_
   | refine ai d167 (put m f.slot).cds rfl (by simp only [nrm,xdn,reduceIte,Nat.reduceLT,Nat.reduceSub,Nat.reduceAdd];exact pi167 hm (by omega) (by omega)) (by simp only [nrm,xdn,reduceIte,Nat.reduceLT,Nat.reduceSub,Nat.reduceAdd,A6]) ?_
   | refine ai d44 (ay { f with slot:=(-1)} f.e).cds rfl trivial (by simp only [nrm,xdn,reduceIte,Nat.reduceLT,Nat.reduceSub,Nat.reduceAdd,Frm.cds,lca];exact xR { f with slot:=(-1)} f.e) ?_
   | refine ai d44 (ay f f.e).cds rfl trivial (by simp only [nrm,xdn,reduceIte,Nat.reduceLT,Nat.reduceSub,Nat.reduceAdd,Frm.cds,lca];exact xR f f.e) ?_
 all_goals first | (exfalso;omega) | skip
 all_goals unfold aL
 all_goals repeat (first | rw [if_neg (by omega)] | rw [if_pos (by omega)] | rw [if_pos (by assumption)] | rw [if_neg (by assumption)] | rw [if_neg (ne_true_of_eq_false (by assumption))] | rw [if_pos (Or.inl (by assumption))] | rw [if_pos (Or.inr (by assumption))] | rw [if_neg (fun y=>Or.elim y (fun z=>z (by assumption)) (fun z=>Bool.false_ne_true (z.symm.trans (by assumption))))])
 all_goals try rw [sb hx]
 all_goals try rw [rX hx]
 all_goals try simp only [nrm,xdn,reduceIte,Nat.reduceLT,Nat.reduceSub,Nat.reduceAdd,Mem.cds,Frm.cds,ay,lca,CD.row,List.headD_cons,eH,cR,Bool.false_eq_true,Bool.true_eq_false]
 all_goals try simp only [nrm,xdn,reduceIte,Nat.reduceLT,Nat.reduceSub,Nat.reduceAdd,Mem.cds,Frm.cds,ay,lca,CD.row,List.headD_cons,eH,cR,Bool.false_eq_true,Bool.true_eq_false,hx]
 all_goals try simp only [nrm,xdn,reduceIte,Nat.reduceLT,Nat.reduceSub,Nat.reduceAdd,Mem.cds,Frm.cds,ay,lca,CD.row,List.headD_cons,eH,cR,Bool.false_eq_true,Bool.true_eq_false,hc]
 all_goals try simp only [nrm,xdn,reduceIte,Nat.reduceLT,Nat.reduceSub,Nat.reduceAdd,Mem.cds,Frm.cds,ay,lca,CD.row,List.headD_cons,eH,cR,Bool.false_eq_true,Bool.true_eq_false,ht]
 all_goals try simp only [nrm,xdn,reduceIte,Nat.reduceLT,Nat.reduceSub,Nat.reduceAdd,Mem.cds,Frm.cds,ay,lca,CD.row,List.headD_cons,eH,cR,Bool.false_eq_true,Bool.true_eq_false,eN (by omega),eK1 (by omega),eK2 (by omega)]
 all_goals first | (have e14 : f.slot=-1:=(by omega);simp only [e14];done) | (have e15 : f.n=1000000:=(by omega);simp only [e15];done)
end Go.Proofs.Ytpmamacjepcdmaa

namespace Go.Proofs.Ytpmamacjepcdmaa
open Go Go.Sy Go.RowKit
set_option linter.unusedSimpArgs false
set_option linter.unusedVariables false
set_option maxRecDepth 20000
def s110 : Sig:=⟨[.ptr [.own 52 kS,.own 3 kI,.own 3 kI,.own 3 kI,.int .i64],.agg [.int .i64,.int .i64,.int .i64,.int .i64,.int .i64,.int .i64,.int .i64,.int .i64,.int .i64,.int .i64,.int .i64,.fz kK,.bool,.int .i64],.one (.int .i64)],[.agg [.int .i64,.int .i64,.int .i64,.int .i64,.int .i64,.int .i64,.int .i64,.int .i64,.int .i64,.int .i64,.int .i64,.fz kK,.bool,.int .i64]]⟩
def d110 : DC:=⟨s110,fun l=>aZ (Mem.of l)∧bV (Mem.of l) (Frm.of (l.drop 5))∧((Frm.of (l.drop 5)).c.kind=4∨(Frm.of (l.drop 5)).c.kind=5),fun l=>(aB (Mem.of l) (Frm.of (l.drop 5)) (l.getD 19 .u).int).2.cds ++ (aB (Mem.of l) (Frm.of (l.drop 5)) (l.getD 19 .u).int).1.cds⟩
theorem fn110 (m : Mem) (f : Frm) (x : Int) : d110.fn [au m.slots,af m.heads,af m.free,af m.ae,.i m.now,.i f.c.kind,.i f.c.k.a,.i f.c.k.b,.i f.c.time,.i f.c.bucket,.i f.c.slot,.i f.pc,.i f.cur,.i f.prev,.i f.slot,.i f.n,bS f.keys,.b f.done,.i f.e,.i x]=(aB m f x).2.cds ++ (aB m f x).1.cds:=by
 simp only [d110,mem_of,aA,List.drop_succ_cons,List.drop_zero,dJ,List.getD_cons_zero,List.getD_cons_succ,CD.aR]
theorem pi110 {m : Mem} {f : Frm} (hm : aZ m) (hf : bV m f) (hk : f.c.kind=4∨f.c.kind=5) (x : Int) : d110.pre [au m.slots,af m.heads,af m.free,af m.ae,.i m.now,.i f.c.kind,.i f.c.k.a,.i f.c.k.b,.i f.c.time,.i f.c.bucket,.i f.c.slot,.i f.pc,.i f.cur,.i f.prev,.i f.slot,.i f.n,bS f.keys,.b f.done,.i f.e,.i x]:=by
 simp only [d110,mem_of,aA,List.drop_succ_cons,List.drop_zero,dJ]
 exact ⟨hm,hf,hk⟩
def l110 : List (Nat × Ct):=[(48,d48.ct),(177,d177.ct),(167,d167.ct),(186,d186.ct),(172,d172.ct),(187,d187.ct),(44,d44.ct)]
def z110 : Cx:={ T:=ttA,C:=sigs l110,F:=[],hints:=[],sig:=s110}
def t110 : Tree :=
 (.call 48 [.var 0,.var 1,.var 2,.var 3,.var 4,.var 5,.var 6,.var 7,.var 8,.var 9,.var 10] 20
 (.ite (.eq (.var 11) (.int 3))
 (.ite (.le (.var 12) (.int 0))
 (.ret [.var 0,.var 1,.var 2,.var 3,.var 4,.var 5,.var 6,.var 7,.var 8,.var 9,.var 10,.int 6,.var 12,.var 13,.var 14,.var 15,.var 16,.var 17,.var 18])
 (.need (.fit (.sub (.var 12) (.int 1)))
 (.need (.le (.int 0) (.sub (.var 12) (.int 1)))
 (.need (.lt (.sub (.var 12) (.int 1)) (.len (.var 0)))
 (.ret [.var 0,.var 1,.var 2,.var 3,.var 4,.var 5,.var 6,.var 7,.var 8,.var 9,.var 10,.int 2,.cell (.var 0) (.sub (.var 12) (.int 1)) 5,.var 12,.var 14,.var 15,.var 16,.var 17,.var 18])))))
 (.ite (.eq (.var 11) (.int 4))
 (.ite (.le (.var 12) (.int 0))
 (.ret [.var 0,.var 1,.var 2,.var 3,.var 4,.var 5,.var 6,.var 7,.var 8,.var 9,.var 10,.int 6,.var 12,.var 13,.var 14,.var 15,.var 16,.var 17,.var 18])
 (.need (.fit (.sub (.var 12) (.int 1)))
 (.need (.le (.int 0) (.sub (.var 12) (.int 1)))
 (.need (.lt (.sub (.var 12) (.int 1)) (.len (.var 0)))
 (.call 177 [.var 0,.var 1,.var 2,.var 3,.var 4,.var 13,.sub (.var 12) (.int 1),.var 20] 21
 (.ret [.var 21,.var 22,.var 23,.var 24,.var 25,.var 5,.var 6,.var 7,.var 8,.var 9,.var 10,.int 5,.cell (.var 0) (.sub (.var 12) (.int 1)) 5,.var 13,.sub (.var 12) (.int 1),.var 15,.var 16,.var 17,.var 18]))))))
 (.ite (.eq (.var 11) (.int 5))
 (.ite (.lt (.var 14) (.int 0))
 (.ret [.var 0,.var 1,.var 2,.var 3,.var 4,.var 5,.var 6,.var 7,.var 8,.var 9,.var 10,.int 6,.var 12,.var 13,.var 14,.var 15,.var 16,.var 17,.var 18])
 (.call 167 [.var 0,.var 1,.var 2,.var 3,.var 4,.var 14] 21
 (.need (.fit (.add (.var 15) (.int 1)))
 (.ret [.var 21,.var 22,.var 23,.var 24,.var 25,.var 5,.var 6,.var 7,.var 8,.var 9,.var 10,.int 2,.var 12,.var 13,.int (-1),.min (.add (.var 15) (.int 1)) (.int 1000000),.var 16,.var 17,.var 18]))))
 (.ite (.lt (.int 6) (.var 11))
 (.ret [.var 0,.var 1,.var 2,.var 3,.var 4,.var 5,.var 6,.var 7,.var 8,.var 9,.var 10,.int 6,.var 12,.var 13,.var 14,.var 15,.var 16,.var 17,.var 18])
 (.ite (.eq (.var 11) (.int 0))
 (.call 186 [.var 0,.var 1,.var 2,.var 3,.var 4,.var 20,.var 19] 21
 (.ite (.var 26)
 (.ret [.var 21,.var 22,.var 23,.var 24,.var 25,.var 5,.var 6,.var 7,.var 8,.var 9,.var 10,.int 1,.var 12,.var 13,.var 14,.var 15,.var 16,.var 17,.var 18])
 (.ret [.var 21,.var 22,.var 23,.var 24,.var 25,.var 5,.var 6,.var 7,.var 8,.var 9,.var 10,.var 11,.var 12,.var 13,.var 14,.var 15,.var 16,.var 17,.var 18])))
 (.ite (.eq (.var 11) (.int 1))
 (.need (.le (.int 0) (.var 20))
 (.need (.lt (.var 20) (.len (.var 1)))
 (.ret [.var 0,.var 1,.var 2,.var 3,.var 4,.var 5,.var 6,.var 7,.var 8,.var 9,.var 10,.int 2,.cell (.var 1) (.var 20) 0,.int 0,.var 14,.var 15,.var 16,.var 17,.var 18])))
 (.ite (.eq (.var 11) (.int 2))
 (.ite (.le (.var 12) (.int 0))
 (.ret [.var 0,.var 1,.var 2,.var 3,.var 4,.var 5,.var 6,.var 7,.var 8,.var 9,.var 10,.int 6,.var 12,.var 13,.var 14,.var 15,.var 16,.var 17,.var 18])
 (.ite (.eq (.var 5) (.int 5))
 (.ite (.lt (.len (.var 16)) (.int 100))
 (.need (.fit (.sub (.var 12) (.int 1)))
 (.need (.le (.int 0) (.sub (.var 12) (.int 1)))
 (.need (.lt (.sub (.var 12) (.int 1)) (.len (.var 0)))
 (.call 172 [.var 16] 21
 (.need (.le (.add (.len (.var 21)) (.int 1)) (.int 8796093022208))
 (.ret [.var 0,.var 1,.var 2,.var 3,.var 4,.var 5,.var 6,.var 7,.var 8,.var 9,.var 10,.int 3,.var 12,.var 13,.var 14,.var 15,.app (.var 21) (.cons (.cell (.var 0) (.sub (.var 12) (.int 1)) 1) (.cons (.cell (.var 0) (.sub (.var 12) (.int 1)) 2) .row0)),.var 17,.var 18]))))))
 (.ret [.var 0,.var 1,.var 2,.var 3,.var 4,.var 5,.var 6,.var 7,.var 8,.var 9,.var 10,.int 3,.var 12,.var 13,.var 14,.var 15,.var 16,.var 17,.var 18]))
 (.need (.fit (.sub (.var 12) (.int 1)))
 (.need (.le (.int 0) (.sub (.var 12) (.int 1)))
 (.need (.lt (.sub (.var 12) (.int 1)) (.len (.var 0)))
 (.ite (.le (.cell (.var 0) (.sub (.var 12) (.int 1)) 3) (.var 4))
 (.ret [.var 0,.var 1,.var 2,.var 3,.var 4,.var 5,.var 6,.var 7,.var 8,.var 9,.var 10,.int 4,.var 12,.var 13,.var 14,.var 15,.var 16,.var 17,.var 18])
 (.ret [.var 0,.var 1,.var 2,.var 3,.var 4,.var 5,.var 6,.var 7,.var 8,.var 9,.var 10,.int 3,.var 12,.var 13,.var 14,.var 15,.var 16,.var 17,.var 18])))))))
 (.ite (.eq (.var 11) (.int 6))
 (.call 187 [.var 0,.var 1,.var 2,.var 3,.var 4,.var 20,.var 19] 21
 (.call 44 [.var 5,.var 6,.var 7,.var 8,.var 9,.var 10,.var 11,.var 12,.var 13,.var 14,.var 15,.var 16,.var 17,.var 18,.int 0] 26
 (.ret [.var 21,.var 22,.var 23,.var 24,.var 25,.var 26,.var 27,.var 28,.var 29,.var 30,.var 31,.var 32,.var 33,.var 34,.var 35,.var 36,.var 37,.var 38,.var 39])))
 (.ret [.var 0,.var 1,.var 2,.var 3,.var 4,.var 5,.var 6,.var 7,.var 8,.var 9,.var 10,.var 11,.var 12,.var 13,.var 14,.var 15,.var 16,.var 17,.var 18]))))))))))
theorem run110 : run z110 6000 [.code (Try.f110.body.getD .skip),.fin (bt z110 Try.f110.results.toList 50)] { fn:=110,tmps:=z110.sig.aM ++ List.replicate (Try.f110.ntmps - z110.sig.aM.length) (.v (.one .undef)),stk:=[],h:=z110.sig.h0,nx:=z110.sig.ins.length,known:=[]}=t110:=by kernel_rfl
set_option maxHeartbeats 16000000 in
theorem ok110 : cB Try.prog 110 d110.ct:=by
 refine aD (d:=d110) (Z:=z110) (Γ:=gam l110) (fn:=Try.f110) (c:=Try.f110.body.getD .skip) (bg tok mixed (all_cons ok48 (all_cons ok177 (all_cons ok167 (all_cons ok186 (all_cons ok172 (all_cons ok187 (all_cons ok44 all_nil))))))) bh) Try.func110 (by kernel_rfl) (by kernel_rfl) rfl run110 fun E hk hp=>?_
 obtain ⟨hk0,hk1,hk2,hk3,hk4,hk5,hk6,hk7,hk8,hk9,hk10,hk11,hk12,hk13,hk14,hk15,hk16,hk17,hk18,hk19,_⟩:=hk
 obtain ⟨m,e0,e1,e2,e3,e4,b0,b1,b2,b3⟩:=cv (d0:=E 0) (d1:=E 1) (d2:=E 2) (d3:=E 3) (d4:=E 4) hk0 hk1 hk2 hk3 hk4
 obtain ⟨f,e5,e6,e7,e8,e9,e10,e11,e12,e13,e14,e15,e16,e17,e18,b16⟩:=ja (d0:=E 5) (d1:=E 6) (d2:=E 7) (d3:=E 8) (d4:=E 9) (d5:=E 10) (d6:=E 11) (d7:=E 12) (d8:=E 13) (d9:=E 14) (d10:=E 15) (d11:=E 16) (d12:=E 17) (d13:=E 18) hk5 hk6 hk7 hk8 hk9 hk10 hk11 hk12 hk13 hk14 hk15 hk16 hk17 hk18
 obtain ⟨x,e19⟩:=ok_int (d:=E 19) hk19
 have el : aH E d110.sig.ins.length=[au m.slots,af m.heads,af m.free,af m.ae,.i m.now,.i f.c.kind,.i f.c.k.a,.i f.c.k.b,.i f.c.time,.i f.c.bucket,.i f.c.slot,.i f.pc,.i f.cur,.i f.prev,.i f.slot,.i f.n,bS f.keys,.b f.done,.i f.e,.i x]:=by
  show [E 0,E 1,E 2,E 3,E 4,E 5,E 6,E 7,E 8,E 9,E 10,E 11,E 12,E 13,E 14,E 15,E 16,E 17,E 18,E 19]=_
  rw [e0,e1,e2,e3,e4,e5,e6,e7,e8,e9,e10,e11,e12,e13,e14,e15,e16,e17,e18,e19]
 rw [el] at hp
 rw [el]
 rw [Env.bJ el]
 clear el e0 e1 e2 e3 e4 e5 e6 e7 e8 e9 e10 e11 e12 e13 e14 e15 e16 e17 e18 e19
 rw [fn110]
 simp only [d110,mem_of,aA,List.drop_succ_cons,List.drop_zero,dJ] at hp
 obtain ⟨hm,hf,hk⟩ : aZ m∧bV m f∧(f.c.kind=4∨f.c.kind=5):=hp
 have hb:=aQ hm hf.call (by omega)
 have gs:=hm.ns
 have g4:=hm.nh4
 have eH : ((af m.heads).rows.getD (aa m f.c).toNat []).getD 0 .u=.i (aO m (aa m f.c)):=iK (by omega)
 obtain ⟨f1,f2,f3,f4,f5,f6,f7,f8,f9,f10,f11,f12,f13⟩:=id hf
 have eN : 0 < f.cur→((au m.slots).rows.getD (f.cur - 1).toNat []).getD 5 .u=.i (at1 m f).next:=fun _=>qa (by omega)
 have eK1 : 0 < f.cur→((au m.slots).rows.getD (f.cur - 1).toNat []).getD 1 .u=.i (at1 m f).k.a:=fun _=>qc (by omega)
 have eK2 : 0 < f.cur→((au m.slots).rows.getD (f.cur - 1).toNat []).getD 2 .u=.i (at1 m f).k.b:=fun _=>qb (by omega)
 have a1 : m.slots.getD (f.cur - 1).toNat default=at1 m f:=rfl
 have a2 : m.slots.getD f.slot.toNat default=at2 m f:=rfl
 unfold t110
 repeat'
  show Tree.den _ _ _ _ _
  first
   | (with_reducible refine G0 (b:=.var _) (fun hx=>?_) (fun hx=>?_)) <;> simp only [nrm,xdn,reduceIte,Nat.reduceLT,Nat.reduceSub,Nat.reduceAdd,cG,cF,cy,cx,cE,aG,a1,a2,bX,Mem.cds,lca,Bool.not_eq_true',Bool.not_eq_false'] at hx
   | (with_reducible refine G0 (fun h=>?_) (fun h=>?_)) <;> simp only [nrm,xdn,reduceIte,Nat.reduceLT,Nat.reduceSub,Nat.reduceAdd,cG,cF,cy,cx,cE,aG,a1,a2,bX,Mem.cds,lca,Bool.not_eq_true',Bool.not_eq_false'] at h <;> try first | replace h:=AW h | replace h:=AY h
   | (with_reducible refine G1 ?_ ?_;· simp only [nrm,xdn,reduceIte,Nat.reduceLT,Nat.reduceSub,Nat.reduceAdd,aN,aw,bX,cG,cF,cy,cx,cE,aG,a1,a2];omega)
   | (with_reducible refine eh ?_ ?_;· simp only [nrm,xdn,reduceIte,Nat.reduceLT,Nat.reduceSub,Nat.reduceAdd,aN,aw,bX,cG,cF,cy,cx,cE,aG,a1,a2];omega)
   | (with_reducible refine lv ?_ ?_;· simp only [nrm,xdn,reduceIte,Nat.reduceLT,Nat.reduceSub,Nat.reduceAdd,aN,aw,bX,cG,cF,cy,cx,cE,aG,a1,a2];omega)
   | with_reducible refine aj ?_
   | refine ai d48 [.i (aa m f.c)] rfl trivial (by simp only [nrm,xdn,reduceIte,Nat.reduceLT,Nat.reduceSub,Nat.reduceAdd,Fa]) ?_
   | refine ai d177 (cut m f.prev (f.cur - 1) (aa m f.c)).cds rfl (by simp only [nrm,xdn,reduceIte,Nat.reduceLT,Nat.reduceSub,Nat.reduceAdd];exact pre177 (by omega) (by omega) (by omega) hb.1 hb.2) (by simp only [nrm,xdn,reduceIte,Nat.reduceLT,Nat.reduceSub,Nat.reduceAdd,fn177]) ?_
   | refine ai d167 (put m f.slot).cds rfl (by simp only [nrm,xdn,reduceIte,Nat.reduceLT,Nat.reduceSub,Nat.reduceAdd];exact pi167 hm (by omega) (by omega)) (by simp only [nrm,xdn,reduceIte,Nat.reduceLT,Nat.reduceSub,Nat.reduceAdd,A6]) ?_
   | refine ai d186 ((lock m (aa m f.c) x).1.cds ++ [.b (lock m (aa m f.c) x).2]) rfl (by simp only [nrm,xdn,reduceIte,Nat.reduceLT,Nat.reduceSub,Nat.reduceAdd];exact pi186 hm hb.1 hb.2) (by simp only [nrm,xdn,reduceIte,Nat.reduceLT,Nat.reduceSub,Nat.reduceAdd,fn186]) ?_
   | refine ai d172 [bS f.keys] rfl trivial (by simp only [nrm,xdn,reduceIte,Nat.reduceLT,Nat.reduceSub,Nat.reduceAdd,d172,jf]) ?_
   | refine ai d187 (unlock m (aa m f.c) x).cds rfl (by simp only [nrm,xdn,reduceIte,Nat.reduceLT,Nat.reduceSub,Nat.reduceAdd];exact pi187 hm hb.1 hb.2) (by simp only [nrm,xdn,reduceIte,Nat.reduceLT,Nat.reduceSub,Nat.reduceAdd,fn187]) ?_
   | refine ai d44 (ay f 0).cds rfl trivial (by simp only [nrm,xdn,reduceIte,Nat.reduceLT,Nat.reduceSub,Nat.reduceAdd,Frm.cds,lca];exact xR f 0) ?_
 all_goals first | (exfalso;omega) | skip
 all_goals unfold aB
 all_goals repeat (first | rw [if_neg (by omega)] | rw [if_pos (by omega)] | rw [if_pos (by assumption)] | rw [if_neg (by assumption)] | rw [if_neg (ne_true_of_eq_false (by assumption))] | rw [if_pos (Or.inl (by assumption))] | rw [if_pos (Or.inr (by assumption))] | rw [if_neg (fun y=>Or.elim y (fun z=>z (by assumption)) (fun z=>Bool.false_ne_true (z.symm.trans (by assumption))))])
 all_goals try rw [sb hx]
 all_goals try rw [rX hx]
 all_goals try simp only [nrm,xdn,reduceIte,Nat.reduceLT,Nat.reduceSub,Nat.reduceAdd,Mem.cds,Frm.cds,ay,lca,CD.row,List.headD_cons,eH,cR,Bool.false_eq_true,Bool.true_eq_false]
 all_goals try simp only [nrm,xdn,reduceIte,Nat.reduceLT,Nat.reduceSub,Nat.reduceAdd,Mem.cds,Frm.cds,ay,lca,CD.row,List.headD_cons,eH,cR,Bool.false_eq_true,Bool.true_eq_false,hx]
 all_goals try simp only [nrm,xdn,reduceIte,Nat.reduceLT,Nat.reduceSub,Nat.reduceAdd,Mem.cds,Frm.cds,ay,lca,CD.row,List.headD_cons,eH,cR,Bool.false_eq_true,Bool.true_eq_false,hc]
 all_goals try simp only [nrm,xdn,reduceIte,Nat.reduceLT,Nat.reduceSub,Nat.reduceAdd,Mem.cds,Frm.cds,ay,lca,CD.row,List.headD_cons,eH,cR,Bool.false_eq_true,Bool.true_eq_false,ht]
 all_goals try simp only [nrm,xdn,reduceIte,Nat.reduceLT,Nat.reduceSub,Nat.reduceAdd,Mem.cds,Frm.cds,ay,lca,CD.row,List.headD_cons,eH,cR,Bool.false_eq_true,Bool.true_eq_false,eN (by omega),eK1 (by omega),eK2 (by omega)]
 all_goals first | (have e14 : f.slot=-1:=(by omega);simp only [e14];done) | (have e15 : f.n=1000000:=(by omega);simp only [e15];done)
end Go.Proofs.Ytpmamacjepcdmaa

namespace Go.Proofs.Ytpmamacjepcdmaa
open Go Go.Sy Go.RowKit
set_option linter.unusedSimpArgs false
set_option linter.unusedVariables false
def Wrd.gone (w : Wrd) (x : Int) (r : Frm × Mem) : Wrd:=⟨r.2,w.ts.modify x.toNat fun t=>{ t with busy:=!r.1.done,f:=r.1}⟩
def cN (w : Wrd) (x : Int) : Wrd × Int :=
 if (tsk w x).busy=false then (w,8)
 else if (tsk w x).f.c.kind=1 then
  (if (ar w.m (tsk w x).f).1.done=true∧(ar w.m (tsk w x).f).1.e=0 then
   (⟨(ar w.m (tsk w x).f).2,w.ts.modify x.toNat fun t=>{ t with busy:=!(ar w.m (tsk w x).f).1.done,f:=(ar w.m (tsk w x).f).1,held:=(tsk w x).held ++ [(ar w.m (tsk w x).f).1.slot]}⟩,0)
  else (w.gone x (ar w.m (tsk w x).f),0))
 else if (tsk w x).f.c.kind=2 then (w.gone x (G3 w.m (tsk w x).f x),0)
 else if (tsk w x).f.c.kind=3 then (w.gone x (aL w.m (tsk w x).f x),0)
 else if (tsk w x).f.c.kind=4∨(tsk w x).f.c.kind=5 then (w.gone x (aB w.m (tsk w x).f x),0)
 else if 0≤indexOf (tsk w x).f.c.slot (tsk w x).held 0 then
  (⟨put w.m (tsk w x).f.c.slot,w.ts.modify x.toNat fun t=>{ t with busy:=!(ay (tsk w x).f 0).done,f:=ay (tsk w x).f 0,held:=(tsk w x).held.take (indexOf (tsk w x).f.c.slot (tsk w x).held 0).toNat ++ (tsk w x).held.drop ((indexOf (tsk w x).f.c.slot (tsk w x).held 0) + 1).toNat}⟩,0)
 else (w.gone x (ay (tsk w x).f 0,w.m),0)
theorem tx {α : Type} [DecidableEq α] (x : α) : ∀ (l : List α) (i : Nat),indexOf x l i < i + l.length∨indexOf x l i=-1
 | [],i=>.inr rfl
 | a :: l,i=>by
  simp only [indexOf,List.length_cons]
  split
  ·left;omega
  ·rcases tx x l (i + 1) with h | h
   ·left;omega
   ·exact .inr h
theorem put_A2 {ts : List Tsk} {k : Nat} {t : Tsk} (ht : ts.getD k default=t) (hto : t.own=true) (b : Bool) (f : Frm) : CD.l ((az ts).rows.modify k fun r=>((((((((((((((((r.set 15 (.o (af t.held).rows)).set 1 (.i f.c.kind)).set 2 (.i f.c.k.a)).set 3 (.i f.c.k.b)).set 4 (.i f.c.time)).set 5 (.i f.c.bucket)).set 6 (.i f.c.slot)).set 7 (.i f.pc)).set 8 (.i f.cur)).set 9 (.i f.prev)).set 10 (.i f.slot)).set 11 (.i f.n)).set 12 (bS f.keys)).set 13 (.b f.done)).set 14 (.i f.e)).set 0 (.b b)))=az (ts.modify k fun t=>{ t with busy:=b,f:=f}) :=
 gH (by rw [ht,gZ hto];simp only [Tsk.iv,Tsk.hd,hto,if_true];rfl)
def s208 : Sig:=⟨[.ptr [.own 52 kS,.own 3 kI,.own 3 kI,.own 3 kI,.int .i64,.own 129 kTo],.one (.int .i64)],[.one (.int .i64)]⟩
def d208 : DC:=⟨s208,fun l=>0≤(l.getD 6 .u).int∧(l.getD 6 .u).int < (Wrd.of l).ts.length∧(∀ t∈(Wrd.of l).ts,t.own=true∧t.held.length≤10000)∧aZ (Wrd.of l).m∧((tsk (Wrd.of l) (l.getD 6 .u).int).busy=true→bV (Wrd.of l).m (tsk (Wrd.of l) (l.getD 6 .u).int).f),fun l=>(cN (Wrd.of l) (l.getD 6 .u).int).1.cds ++ [.i (cN (Wrd.of l) (l.getD 6 .u).int).2]⟩
def l208 : List (Nat × Ct):=[(101,d101.ct),(107,d107.ct),(104,d104.ct),(110,d110.ct),(179,d179.ct),(167,d167.ct),(215,d215.ct),(44,d44.ct)]
def z208 : Cx:={ T:=ttA,C:=sigs l208,F:=[],hints:=[],sig:=s208}
def t208 : Tree :=
 (.need (.le (.int 0) (.var 6))
 (.need (.lt (.var 6) (.len (.var 5)))
 (.ite (.not (.cell (.var 5) (.var 6) 0))
 (.need (.clean (.var 5) 15)
 (.ret [.var 0,.var 1,.var 2,.var 3,.var 4,.var 5,.int 8]))
 (.ite (.eq (.cell (.var 5) (.var 6) 1) (.int 1))
 (.call 101 [.var 0,.var 1,.var 2,.var 3,.var 4,.cell (.var 5) (.var 6) 1,.cell (.var 5) (.var 6) 2,.cell (.var 5) (.var 6) 3,.cell (.var 5) (.var 6) 4,.cell (.var 5) (.var 6) 5,.cell (.var 5) (.var 6) 6,.cell (.var 5) (.var 6) 7,.cell (.var 5) (.var 6) 8,.cell (.var 5) (.var 6) 9,.cell (.var 5) (.var 6) 10,.cell (.var 5) (.var 6) 11,.cell (.var 5) (.var 6) 12,.cell (.var 5) (.var 6) 13,.cell (.var 5) (.var 6) 14] 7
 (.ite (.var 24)
 (.ite (.eq (.var 25) (.int 0))
 (.need (.isO (.cell (.var 5) (.var 6) 15))
 (.need (.le (.add (.len (.shut (.cell (.var 5) (.var 6) 15))) (.int 1)) (.int 17592186044416))
 (.need (.clean (.set (.set (.set (.set (.set (.set (.set (.set (.set (.set (.set (.set (.set (.set (.set (.set (.var 5) (.var 6) 1 (.var 12)) (.var 6) 2 (.var 13)) (.var 6) 3 (.var 14)) (.var 6) 4 (.var 15)) (.var 6) 5 (.var 16)) (.var 6) 6 (.var 17)) (.var 6) 7 (.var 18)) (.var 6) 8 (.var 19)) (.var 6) 9 (.var 20)) (.var 6) 10 (.var 21)) (.var 6) 11 (.var 22)) (.var 6) 12 (.var 23)) (.var 6) 13 (.var 24)) (.var 6) 14 (.var 25)) (.var 6) 15 (.own (.app (.shut (.cell (.var 5) (.var 6) 15)) (.cons (.var 21) .row0)))) (.var 6) 0 (.not (.var 24))) 15)
 (.ret [.var 7,.var 8,.var 9,.var 10,.var 11,.set (.set (.set (.set (.set (.set (.set (.set (.set (.set (.set (.set (.set (.set (.set (.set (.var 5) (.var 6) 1 (.var 12)) (.var 6) 2 (.var 13)) (.var 6) 3 (.var 14)) (.var 6) 4 (.var 15)) (.var 6) 5 (.var 16)) (.var 6) 6 (.var 17)) (.var 6) 7 (.var 18)) (.var 6) 8 (.var 19)) (.var 6) 9 (.var 20)) (.var 6) 10 (.var 21)) (.var 6) 11 (.var 22)) (.var 6) 12 (.var 23)) (.var 6) 13 (.var 24)) (.var 6) 14 (.var 25)) (.var 6) 15 (.own (.app (.shut (.cell (.var 5) (.var 6) 15)) (.cons (.var 21) .row0)))) (.var 6) 0 (.not (.var 24)),.int 0]))))
 (.need (.clean (.set (.set (.set (.set (.set (.set (.set (.set (.set (.set (.set (.set (.set (.set (.set (.var 5) (.var 6) 1 (.var 12)) (.var 6) 2 (.var 13)) (.var 6) 3 (.var 14)) (.var 6) 4 (.var 15)) (.var 6) 5 (.var 16)) (.var 6) 6 (.var 17)) (.var 6) 7 (.var 18)) (.var 6) 8 (.var 19)) (.var 6) 9 (.var 20)) (.var 6) 10 (.var 21)) (.var 6) 11 (.var 22)) (.var 6) 12 (.var 23)) (.var 6) 13 (.var 24)) (.var 6) 14 (.var 25)) (.var 6) 0 (.not (.var 24))) 15)
 (.ret [.var 7,.var 8,.var 9,.var 10,.var 11,.set (.set (.set (.set (.set (.set (.set (.set (.set (.set (.set (.set (.set (.set (.set (.var 5) (.var 6) 1 (.var 12)) (.var 6) 2 (.var 13)) (.var 6) 3 (.var 14)) (.var 6) 4 (.var 15)) (.var 6) 5 (.var 16)) (.var 6) 6 (.var 17)) (.var 6) 7 (.var 18)) (.var 6) 8 (.var 19)) (.var 6) 9 (.var 20)) (.var 6) 10 (.var 21)) (.var 6) 11 (.var 22)) (.var 6) 12 (.var 23)) (.var 6) 13 (.var 24)) (.var 6) 14 (.var 25)) (.var 6) 0 (.not (.var 24)),.int 0])))
 (.need (.clean (.set (.set (.set (.set (.set (.set (.set (.set (.set (.set (.set (.set (.set (.set (.set (.var 5) (.var 6) 1 (.var 12)) (.var 6) 2 (.var 13)) (.var 6) 3 (.var 14)) (.var 6) 4 (.var 15)) (.var 6) 5 (.var 16)) (.var 6) 6 (.var 17)) (.var 6) 7 (.var 18)) (.var 6) 8 (.var 19)) (.var 6) 9 (.var 20)) (.var 6) 10 (.var 21)) (.var 6) 11 (.var 22)) (.var 6) 12 (.var 23)) (.var 6) 13 (.var 24)) (.var 6) 14 (.var 25)) (.var 6) 0 (.not (.var 24))) 15)
 (.ret [.var 7,.var 8,.var 9,.var 10,.var 11,.set (.set (.set (.set (.set (.set (.set (.set (.set (.set (.set (.set (.set (.set (.set (.var 5) (.var 6) 1 (.var 12)) (.var 6) 2 (.var 13)) (.var 6) 3 (.var 14)) (.var 6) 4 (.var 15)) (.var 6) 5 (.var 16)) (.var 6) 6 (.var 17)) (.var 6) 7 (.var 18)) (.var 6) 8 (.var 19)) (.var 6) 9 (.var 20)) (.var 6) 10 (.var 21)) (.var 6) 11 (.var 22)) (.var 6) 12 (.var 23)) (.var 6) 13 (.var 24)) (.var 6) 14 (.var 25)) (.var 6) 0 (.not (.var 24)),.int 0]))))
 (.ite (.eq (.cell (.var 5) (.var 6) 1) (.int 2))
 (.call 107 [.var 0,.var 1,.var 2,.var 3,.var 4,.cell (.var 5) (.var 6) 1,.cell (.var 5) (.var 6) 2,.cell (.var 5) (.var 6) 3,.cell (.var 5) (.var 6) 4,.cell (.var 5) (.var 6) 5,.cell (.var 5) (.var 6) 6,.cell (.var 5) (.var 6) 7,.cell (.var 5) (.var 6) 8,.cell (.var 5) (.var 6) 9,.cell (.var 5) (.var 6) 10,.cell (.var 5) (.var 6) 11,.cell (.var 5) (.var 6) 12,.cell (.var 5) (.var 6) 13,.cell (.var 5) (.var 6) 14,.var 6] 7
 (.need (.clean (.set (.set (.set (.set (.set (.set (.set (.set (.set (.set (.set (.set (.set (.set (.set (.var 5) (.var 6) 1 (.var 12)) (.var 6) 2 (.var 13)) (.var 6) 3 (.var 14)) (.var 6) 4 (.var 15)) (.var 6) 5 (.var 16)) (.var 6) 6 (.var 17)) (.var 6) 7 (.var 18)) (.var 6) 8 (.var 19)) (.var 6) 9 (.var 20)) (.var 6) 10 (.var 21)) (.var 6) 11 (.var 22)) (.var 6) 12 (.var 23)) (.var 6) 13 (.var 24)) (.var 6) 14 (.var 25)) (.var 6) 0 (.not (.var 24))) 15)
 (.ret [.var 7,.var 8,.var 9,.var 10,.var 11,.set (.set (.set (.set (.set (.set (.set (.set (.set (.set (.set (.set (.set (.set (.set (.var 5) (.var 6) 1 (.var 12)) (.var 6) 2 (.var 13)) (.var 6) 3 (.var 14)) (.var 6) 4 (.var 15)) (.var 6) 5 (.var 16)) (.var 6) 6 (.var 17)) (.var 6) 7 (.var 18)) (.var 6) 8 (.var 19)) (.var 6) 9 (.var 20)) (.var 6) 10 (.var 21)) (.var 6) 11 (.var 22)) (.var 6) 12 (.var 23)) (.var 6) 13 (.var 24)) (.var 6) 14 (.var 25)) (.var 6) 0 (.not (.var 24)),.int 0])))
 (.ite (.eq (.cell (.var 5) (.var 6) 1) (.int 3))
 (.call 104 [.var 0,.var 1,.var 2,.var 3,.var 4,.cell (.var 5) (.var 6) 1,.cell (.var 5) (.var 6) 2,.cell (.var 5) (.var 6) 3,.cell (.var 5) (.var 6) 4,.cell (.var 5) (.var 6) 5,.cell (.var 5) (.var 6) 6,.cell (.var 5) (.var 6) 7,.cell (.var 5) (.var 6) 8,.cell (.var 5) (.var 6) 9,.cell (.var 5) (.var 6) 10,.cell (.var 5) (.var 6) 11,.cell (.var 5) (.var 6) 12,.cell (.var 5) (.var 6) 13,.cell (.var 5) (.var 6) 14,.var 6] 7
 (.need (.clean (.set (.set (.set (.set (.set (.set (.set (.set (.set (.set (.set (.set (.set (.set (.set (.var 5) (.var 6) 1 (.var 12)) (.var 6) 2 (.var 13)) (.var 6) 3 (.var 14)) (.var 6) 4 (.var 15)) (.var 6) 5 (.var 16)) (.var 6) 6 (.var 17)) (.var 6) 7 (.var 18)) (.var 6) 8 (.var 19)) (.var 6) 9 (.var 20)) (.var 6) 10 (.var 21)) (.var 6) 11 (.var 22)) (.var 6) 12 (.var 23)) (.var 6) 13 (.var 24)) (.var 6) 14 (.var 25)) (.var 6) 0 (.not (.var 24))) 15)
 (.ret [.var 7,.var 8,.var 9,.var 10,.var 11,.set (.set (.set (.set (.set (.set (.set (.set (.set (.set (.set (.set (.set (.set (.set (.var 5) (.var 6) 1 (.var 12)) (.var 6) 2 (.var 13)) (.var 6) 3 (.var 14)) (.var 6) 4 (.var 15)) (.var 6) 5 (.var 16)) (.var 6) 6 (.var 17)) (.var 6) 7 (.var 18)) (.var 6) 8 (.var 19)) (.var 6) 9 (.var 20)) (.var 6) 10 (.var 21)) (.var 6) 11 (.var 22)) (.var 6) 12 (.var 23)) (.var 6) 13 (.var 24)) (.var 6) 14 (.var 25)) (.var 6) 0 (.not (.var 24)),.int 0])))
 (.ite (.eq (.cell (.var 5) (.var 6) 1) (.int 4))
 (.call 110 [.var 0,.var 1,.var 2,.var 3,.var 4,.cell (.var 5) (.var 6) 1,.cell (.var 5) (.var 6) 2,.cell (.var 5) (.var 6) 3,.cell (.var 5) (.var 6) 4,.cell (.var 5) (.var 6) 5,.cell (.var 5) (.var 6) 6,.cell (.var 5) (.var 6) 7,.cell (.var 5) (.var 6) 8,.cell (.var 5) (.var 6) 9,.cell (.var 5) (.var 6) 10,.cell (.var 5) (.var 6) 11,.cell (.var 5) (.var 6) 12,.cell (.var 5) (.var 6) 13,.cell (.var 5) (.var 6) 14,.var 6] 7
 (.need (.clean (.set (.set (.set (.set (.set (.set (.set (.set (.set (.set (.set (.set (.set (.set (.set (.var 5) (.var 6) 1 (.var 12)) (.var 6) 2 (.var 13)) (.var 6) 3 (.var 14)) (.var 6) 4 (.var 15)) (.var 6) 5 (.var 16)) (.var 6) 6 (.var 17)) (.var 6) 7 (.var 18)) (.var 6) 8 (.var 19)) (.var 6) 9 (.var 20)) (.var 6) 10 (.var 21)) (.var 6) 11 (.var 22)) (.var 6) 12 (.var 23)) (.var 6) 13 (.var 24)) (.var 6) 14 (.var 25)) (.var 6) 0 (.not (.var 24))) 15)
 (.ret [.var 7,.var 8,.var 9,.var 10,.var 11,.set (.set (.set (.set (.set (.set (.set (.set (.set (.set (.set (.set (.set (.set (.set (.var 5) (.var 6) 1 (.var 12)) (.var 6) 2 (.var 13)) (.var 6) 3 (.var 14)) (.var 6) 4 (.var 15)) (.var 6) 5 (.var 16)) (.var 6) 6 (.var 17)) (.var 6) 7 (.var 18)) (.var 6) 8 (.var 19)) (.var 6) 9 (.var 20)) (.var 6) 10 (.var 21)) (.var 6) 11 (.var 22)) (.var 6) 12 (.var 23)) (.var 6) 13 (.var 24)) (.var 6) 14 (.var 25)) (.var 6) 0 (.not (.var 24)),.int 0])))
 (.ite (.eq (.cell (.var 5) (.var 6) 1) (.int 5))
 (.call 110 [.var 0,.var 1,.var 2,.var 3,.var 4,.cell (.var 5) (.var 6) 1,.cell (.var 5) (.var 6) 2,.cell (.var 5) (.var 6) 3,.cell (.var 5) (.var 6) 4,.cell (.var 5) (.var 6) 5,.cell (.var 5) (.var 6) 6,.cell (.var 5) (.var 6) 7,.cell (.var 5) (.var 6) 8,.cell (.var 5) (.var 6) 9,.cell (.var 5) (.var 6) 10,.cell (.var 5) (.var 6) 11,.cell (.var 5) (.var 6) 12,.cell (.var 5) (.var 6) 13,.cell (.var 5) (.var 6) 14,.var 6] 7
 (.need (.clean (.set (.set (.set (.set (.set (.set (.set (.set (.set (.set (.set (.set (.set (.set (.set (.var 5) (.var 6) 1 (.var 12)) (.var 6) 2 (.var 13)) (.var 6) 3 (.var 14)) (.var 6) 4 (.var 15)) (.var 6) 5 (.var 16)) (.var 6) 6 (.var 17)) (.var 6) 7 (.var 18)) (.var 6) 8 (.var 19)) (.var 6) 9 (.var 20)) (.var 6) 10 (.var 21)) (.var 6) 11 (.var 22)) (.var 6) 12 (.var 23)) (.var 6) 13 (.var 24)) (.var 6) 14 (.var 25)) (.var 6) 0 (.not (.var 24))) 15)
 (.ret [.var 7,.var 8,.var 9,.var 10,.var 11,.set (.set (.set (.set (.set (.set (.set (.set (.set (.set (.set (.set (.set (.set (.set (.var 5) (.var 6) 1 (.var 12)) (.var 6) 2 (.var 13)) (.var 6) 3 (.var 14)) (.var 6) 4 (.var 15)) (.var 6) 5 (.var 16)) (.var 6) 6 (.var 17)) (.var 6) 7 (.var 18)) (.var 6) 8 (.var 19)) (.var 6) 9 (.var 20)) (.var 6) 10 (.var 21)) (.var 6) 11 (.var 22)) (.var 6) 12 (.var 23)) (.var 6) 13 (.var 24)) (.var 6) 14 (.var 25)) (.var 6) 0 (.not (.var 24)),.int 0])))
 (.ite (.eq (.cell (.var 5) (.var 6) 1) (.int 6))
 (.need (.isO (.cell (.var 5) (.var 6) 15))
 (.call 179 [.shut (.cell (.var 5) (.var 6) 15),.cell (.var 5) (.var 6) 6] 7
 (.ite (.le (.int 0) (.var 7))
 (.call 167 [.var 0,.var 1,.var 2,.var 3,.var 4,.cell (.var 5) (.var 6) 6] 8
 (.need (.fit (.add (.var 7) (.int 1)))
 (.call 215 [.shut (.cell (.var 5) (.var 6) 15),.var 7,.add (.var 7) (.int 1)] 13
 (.call 44 [.cell (.var 5) (.var 6) 1,.cell (.var 5) (.var 6) 2,.cell (.var 5) (.var 6) 3,.cell (.var 5) (.var 6) 4,.cell (.var 5) (.var 6) 5,.cell (.var 5) (.var 6) 6,.cell (.var 5) (.var 6) 7,.cell (.var 5) (.var 6) 8,.cell (.var 5) (.var 6) 9,.cell (.var 5) (.var 6) 10,.cell (.var 5) (.var 6) 11,.cell (.var 5) (.var 6) 12,.cell (.var 5) (.var 6) 13,.cell (.var 5) (.var 6) 14,.int 0] 14
 (.need (.clean (.set (.set (.set (.set (.set (.set (.set (.set (.set (.set (.set (.set (.set (.set (.set (.set (.var 5) (.var 6) 15 (.own (.var 13))) (.var 6) 1 (.var 14)) (.var 6) 2 (.var 15)) (.var 6) 3 (.var 16)) (.var 6) 4 (.var 17)) (.var 6) 5 (.var 18)) (.var 6) 6 (.var 19)) (.var 6) 7 (.var 20)) (.var 6) 8 (.var 21)) (.var 6) 9 (.var 22)) (.var 6) 10 (.var 23)) (.var 6) 11 (.var 24)) (.var 6) 12 (.var 25)) (.var 6) 13 (.var 26)) (.var 6) 14 (.var 27)) (.var 6) 0 (.not (.var 26))) 15)
 (.ret [.var 8,.var 9,.var 10,.var 11,.var 12,.set (.set (.set (.set (.set (.set (.set (.set (.set (.set (.set (.set (.set (.set (.set (.set (.var 5) (.var 6) 15 (.own (.var 13))) (.var 6) 1 (.var 14)) (.var 6) 2 (.var 15)) (.var 6) 3 (.var 16)) (.var 6) 4 (.var 17)) (.var 6) 5 (.var 18)) (.var 6) 6 (.var 19)) (.var 6) 7 (.var 20)) (.var 6) 8 (.var 21)) (.var 6) 9 (.var 22)) (.var 6) 10 (.var 23)) (.var 6) 11 (.var 24)) (.var 6) 12 (.var 25)) (.var 6) 13 (.var 26)) (.var 6) 14 (.var 27)) (.var 6) 0 (.not (.var 26)),.int 0]))))))
 (.call 44 [.cell (.var 5) (.var 6) 1,.cell (.var 5) (.var 6) 2,.cell (.var 5) (.var 6) 3,.cell (.var 5) (.var 6) 4,.cell (.var 5) (.var 6) 5,.cell (.var 5) (.var 6) 6,.cell (.var 5) (.var 6) 7,.cell (.var 5) (.var 6) 8,.cell (.var 5) (.var 6) 9,.cell (.var 5) (.var 6) 10,.cell (.var 5) (.var 6) 11,.cell (.var 5) (.var 6) 12,.cell (.var 5) (.var 6) 13,.cell (.var 5) (.var 6) 14,.int 0] 8
 (.need (.clean (.set (.set (.set (.set (.set (.set (.set (.set (.set (.set (.set (.set (.set (.set (.set (.set (.var 5) (.var 6) 15 (.own (.shut (.cell (.var 5) (.var 6) 15)))) (.var 6) 1 (.var 8)) (.var 6) 2 (.var 9)) (.var 6) 3 (.var 10)) (.var 6) 4 (.var 11)) (.var 6) 5 (.var 12)) (.var 6) 6 (.var 13)) (.var 6) 7 (.var 14)) (.var 6) 8 (.var 15)) (.var 6) 9 (.var 16)) (.var 6) 10 (.var 17)) (.var 6) 11 (.var 18)) (.var 6) 12 (.var 19)) (.var 6) 13 (.var 20)) (.var 6) 14 (.var 21)) (.var 6) 0 (.not (.var 20))) 15)
 (.ret [.var 0,.var 1,.var 2,.var 3,.var 4,.set (.set (.set (.set (.set (.set (.set (.set (.set (.set (.set (.set (.set (.set (.set (.set (.var 5) (.var 6) 15 (.own (.shut (.cell (.var 5) (.var 6) 15)))) (.var 6) 1 (.var 8)) (.var 6) 2 (.var 9)) (.var 6) 3 (.var 10)) (.var 6) 4 (.var 11)) (.var 6) 5 (.var 12)) (.var 6) 6 (.var 13)) (.var 6) 7 (.var 14)) (.var 6) 8 (.var 15)) (.var 6) 9 (.var 16)) (.var 6) 10 (.var 17)) (.var 6) 11 (.var 18)) (.var 6) 12 (.var 19)) (.var 6) 13 (.var 20)) (.var 6) 14 (.var 21)) (.var 6) 0 (.not (.var 20)),.int 0]))))))
 (.need (.clean (.set (.var 5) (.var 6) 0 (.not (.cell (.var 5) (.var 6) 13))) 15)
 (.ret [.var 0,.var 1,.var 2,.var 3,.var 4,.set (.var 5) (.var 6) 0 (.not (.cell (.var 5) (.var 6) 13)),.int 0])))))))))))
theorem run208 : run z208 6000 [.code (Try.f208.body.getD .skip),.fin (bt z208 Try.f208.results.toList 50)] { fn:=208,tmps:=z208.sig.aM ++ List.replicate (Try.f208.ntmps - z208.sig.aM.length) (.v (.one .undef)),stk:=[],h:=z208.sig.h0,nx:=z208.sig.ins.length,known:=[]}=t208:=by kernel_rfl
set_option maxHeartbeats 4000000 in
theorem ok208 : cB Try.prog 208 d208.ct:=by
 refine aD (d:=d208) (Z:=z208) (Γ:=gam l208) (fn:=Try.f208) (c:=Try.f208.body.getD .skip) (bg tok mixed (all_cons ok101 (all_cons ok107 (all_cons ok104 (all_cons ok110 (all_cons ok179 (all_cons ok167 (all_cons ok215 (all_cons ok44 all_nil)))))))) bh) Try.func208 (by kernel_rfl) (by kernel_rfl) rfl run208 fun E hk hp=>?_
 obtain ⟨hk0,hk1,hk2,hk3,hk4,hk5,hk6,_⟩:=hk
 obtain ⟨m,e0,e1,e2,e3,e4,b0,b1,b2,b3⟩:=cv (d0:=E 0) (d1:=E 1) (d2:=E 2) (d3:=E 3) (d4:=E 4) hk0 hk1 hk2 hk3 hk4
 obtain ⟨ts,e5,hts,b5⟩:=qf (d:=E 5) hk5
 have b5 : ts.length * 160≤140737488355328:=b5
 obtain ⟨x,e6⟩:=ok_int (d:=E 6) hk6
 have el : aH E d208.sig.ins.length=[au m.slots,af m.heads,af m.free,af m.ae,.i m.now,az ts,.i x]:=by
  show [E 0,E 1,E 2,E 3,E 4,E 5,E 6]=_
  rw [e0,e1,e2,e3,e4,e5,e6]
 rw [el] at hp
 rw [el]
 rw [Env.bJ el]
 clear el e0 e1 e2 e3 e4 e5 e6
 simp only [d208,fX,List.getD_cons_zero,List.getD_cons_succ,CD.aR,aA] at hp ⊢
 obtain ⟨p0,p1,p2,hm,hf⟩:=hp
 obtain ⟨k,rfl⟩ : ∃ k : Nat,x=k:=⟨x.toNat,by omega⟩
 have hk : k < ts.length:=by omega
 obtain ⟨t,ht⟩ : ∃ t,ts.getD k default=t:=⟨_,rfl⟩
 have hto : t.own=true:=(p2 _ (ht ▸ fc hk)).1
 have hfit : t.held.length≤10000:=(p2 _ (ht ▸ fc hk)).2
 have htt : tsk ⟨m,ts⟩ k=t:=by unfold tsk;rw [Int.toNat_natCast];exact ht
 rw [htt] at hf
 have e0 : ((az ts).rows.getD k []).getD 0 .u=.b t.busy:=by rw [cO 0 hk,ht];rfl
 have e1 : ((az ts).rows.getD k []).getD 1 .u=.i t.f.c.kind:=by rw [cO 1 hk,ht];rfl
 have e2 : ((az ts).rows.getD k []).getD 2 .u=.i t.f.c.k.a:=by rw [cO 2 hk,ht];rfl
 have e3 : ((az ts).rows.getD k []).getD 3 .u=.i t.f.c.k.b:=by rw [cO 3 hk,ht];rfl
 have e4 : ((az ts).rows.getD k []).getD 4 .u=.i t.f.c.time:=by rw [cO 4 hk,ht];rfl
 have e5 : ((az ts).rows.getD k []).getD 5 .u=.i t.f.c.bucket:=by rw [cO 5 hk,ht];rfl
 have e6 : ((az ts).rows.getD k []).getD 6 .u=.i t.f.c.slot:=by rw [cO 6 hk,ht];rfl
 have e7 : ((az ts).rows.getD k []).getD 7 .u=.i t.f.pc:=by rw [cO 7 hk,ht];rfl
 have e8 : ((az ts).rows.getD k []).getD 8 .u=.i t.f.cur:=by rw [cO 8 hk,ht];rfl
 have e9 : ((az ts).rows.getD k []).getD 9 .u=.i t.f.prev:=by rw [cO 9 hk,ht];rfl
 have e10 : ((az ts).rows.getD k []).getD 10 .u=.i t.f.slot:=by rw [cO 10 hk,ht];rfl
 have e11 : ((az ts).rows.getD k []).getD 11 .u=.i t.f.n:=by rw [cO 11 hk,ht];rfl
 have e12 : ((az ts).rows.getD k []).getD 12 .u=bS t.f.keys:=by rw [cO 12 hk,ht];rfl
 have e13 : ((az ts).rows.getD k []).getD 13 .u=.b t.f.done:=by rw [cO 13 hk,ht];rfl
 have e14 : ((az ts).rows.getD k []).getD 14 .u=.i t.f.e:=by rw [cO 14 hk,ht];rfl
 have e15 : ((az ts).rows.getD k []).getD 15 .u=o8 t.held:=by rw [cO 15 hk,ht,gZ hto];rfl
 have eo : (o8 t.held).isO=true:=rfl
 have es : (o8 t.held).shut=af t.held:=rfl
 unfold cN
 rw [htt]
 unfold t208
 refine ag (by simp only [nrm,xdn,reduceIte,Nat.reduceLT,Nat.reduceSub,Nat.reduceAdd];omega) (ag (by simp only [nrm,xdn,reduceIte,Nat.reduceLT,Nat.reduceSub,Nat.reduceAdd,eK];omega) (G0 (fun h=>?_) (fun h=>?_)))
 ·simp only [nrm,xdn,reduceIte,Nat.reduceLT,Nat.reduceSub,Nat.reduceAdd,Int.toNat_natCast,e0,Bool.not_eq_true'] at h
  rw [if_pos h]
  refine ag (by simp only [nrm,xdn,reduceIte,Nat.reduceLT,Nat.reduceSub,Nat.reduceAdd];exact aI ts) (aj ?_)
  simp only [nrm,xdn,reduceIte,Nat.reduceLT,Nat.reduceSub,Nat.reduceAdd,Wrd.cds,Mem.cds,lca]
 simp only [nrm,xdn,reduceIte,Nat.reduceLT,Nat.reduceSub,Nat.reduceAdd,Int.toNat_natCast,e0,Bool.not_eq_false'] at h
 rw [if_neg (by rw [h];exact fun x=>Bool.noConfusion x)]
 have hf:=hf h
 refine G0 (fun h1=>?_) (fun h1=>?_)
 ·simp only [nrm,xdn,reduceIte,Nat.reduceLT,Nat.reduceSub,Nat.reduceAdd,Int.toNat_natCast,e1] at h1
  rw [if_pos h1]
  refine ai d101 ((ar m t.f).2.cds ++ (ar m t.f).1.cds) rfl (by simp only [nrm,xdn,reduceIte,Nat.reduceLT,Nat.reduceSub,Nat.reduceAdd,Int.toNat_natCast,e1,e2,e3,e4,e5,e6,e7,e8,e9,e10,e11,e12,e13,e14];exact pi101 hm hf h1) (by simp only [nrm,xdn,reduceIte,Nat.reduceLT,Nat.reduceSub,Nat.reduceAdd,Int.toNat_natCast,e1,e2,e3,e4,e5,e6,e7,e8,e9,e10,e11,e12,e13,e14,fn101]) ?_
  generalize ar m t.f=r
  have hB:=Jo ht hto (!r.1.done) r.1
  refine G0 (fun h2=>?_) (fun h2=>?_)
  ·simp only [nrm,xdn,reduceIte,Nat.reduceLT,Nat.reduceSub,Nat.reduceAdd,Frm.cds,Mem.cds,lca] at h2
   refine G0 (fun h3=>?_) (fun h3=>?_)
   ·simp only [nrm,xdn,reduceIte,Nat.reduceLT,Nat.reduceSub,Nat.reduceAdd,Frm.cds,Mem.cds,lca] at h3
    rw [if_pos ⟨h2,h3⟩]
    have hC:=put_C ht hto (!r.1.done) r.1 (t.held ++ [r.1.slot])
    have ha : (af t.held).rows ++ [[.i r.1.slot]]=(af (t.held ++ [r.1.slot])).rows:=by simp [af]
    refine ag (by simp only [nrm,xdn,reduceIte,Nat.reduceLT,Nat.reduceSub,Nat.reduceAdd,Int.toNat_natCast,e15,eo]) (ag (by simp only [nrm,xdn,reduceIte,Nat.reduceLT,Nat.reduceSub,Nat.reduceAdd,Int.toNat_natCast,e15,es,aw];omega) (ag ?_ (aj ?_)))
    ·simp only [nrm,xdn,reduceIte,Nat.reduceLT,Nat.reduceSub,Nat.reduceAdd,Int.toNat_natCast,e15,es,CD.row,CD.ax,aC,Frm.cds,Mem.cds,lca,List.headD_cons,ha]
     exact cls hC
    ·simp only [nrm,xdn,reduceIte,Nat.reduceLT,Nat.reduceSub,Nat.reduceAdd,Int.toNat_natCast,e15,es,CD.row,CD.ax,aC,Frm.cds,Mem.cds,lca,List.headD_cons,ha,hC,Wrd.cds]
   ·simp only [nrm,xdn,reduceIte,Nat.reduceLT,Nat.reduceSub,Nat.reduceAdd,Frm.cds,Mem.cds,lca] at h3
    rw [if_neg (fun x=>h3 x.2)]
    refine ag ?_ (aj ?_)
    ·simp only [nrm,xdn,reduceIte,Nat.reduceLT,Nat.reduceSub,Nat.reduceAdd,Int.toNat_natCast,CD.ax,aC,Frm.cds,Mem.cds,lca]
     exact cls hB
    ·simp only [nrm,xdn,reduceIte,Nat.reduceLT,Nat.reduceSub,Nat.reduceAdd,Int.toNat_natCast,CD.ax,aC,Frm.cds,hB,Wrd.cds,Wrd.gone,Mem.cds,lca]
  ·simp only [nrm,xdn,reduceIte,Nat.reduceLT,Nat.reduceSub,Nat.reduceAdd,Frm.cds,Mem.cds,lca] at h2
   rw [if_neg (fun x=>by rw [h2] at x;exact Bool.noConfusion x.1)]
   refine ag ?_ (aj ?_)
   ·simp only [nrm,xdn,reduceIte,Nat.reduceLT,Nat.reduceSub,Nat.reduceAdd,Int.toNat_natCast,CD.ax,aC,Frm.cds,Mem.cds,lca]
    exact cls hB
   ·simp only [nrm,xdn,reduceIte,Nat.reduceLT,Nat.reduceSub,Nat.reduceAdd,Int.toNat_natCast,CD.ax,aC,Frm.cds,hB,Wrd.cds,Wrd.gone,Mem.cds,lca]
 simp only [nrm,xdn,reduceIte,Nat.reduceLT,Nat.reduceSub,Nat.reduceAdd,Int.toNat_natCast,e1] at h1
 rw [if_neg h1]
 refine G0 (fun h2=>?_) (fun h2=>?_)
 ·simp only [nrm,xdn,reduceIte,Nat.reduceLT,Nat.reduceSub,Nat.reduceAdd,Int.toNat_natCast,e1] at h2
  rw [if_pos h2]
  refine ai d107 ((G3 m t.f k).2.cds ++ (G3 m t.f k).1.cds) rfl (by simp only [nrm,xdn,reduceIte,Nat.reduceLT,Nat.reduceSub,Nat.reduceAdd,Int.toNat_natCast,e1,e2,e3,e4,e5,e6,e7,e8,e9,e10,e11,e12,e13,e14];exact pi107 hm hf h2 k) (by simp only [nrm,xdn,reduceIte,Nat.reduceLT,Nat.reduceSub,Nat.reduceAdd,Int.toNat_natCast,e1,e2,e3,e4,e5,e6,e7,e8,e9,e10,e11,e12,e13,e14,fn107]) ?_
  generalize G3 m t.f k=r
  have hB:=Jo ht hto (!r.1.done) r.1
  refine ag ?_ (aj ?_)
  ·simp only [nrm,xdn,reduceIte,Nat.reduceLT,Nat.reduceSub,Nat.reduceAdd,Int.toNat_natCast,CD.ax,aC,Frm.cds,Mem.cds,lca]
   exact cls hB
  ·simp only [nrm,xdn,reduceIte,Nat.reduceLT,Nat.reduceSub,Nat.reduceAdd,Int.toNat_natCast,CD.ax,aC,Frm.cds,hB,Wrd.cds,Wrd.gone,Mem.cds,lca]
 simp only [nrm,xdn,reduceIte,Nat.reduceLT,Nat.reduceSub,Nat.reduceAdd,Int.toNat_natCast,e1] at h2
 rw [if_neg h2]
 refine G0 (fun h3=>?_) (fun h3=>?_)
 ·simp only [nrm,xdn,reduceIte,Nat.reduceLT,Nat.reduceSub,Nat.reduceAdd,Int.toNat_natCast,e1] at h3
  rw [if_pos h3]
  refine ai d104 ((aL m t.f k).2.cds ++ (aL m t.f k).1.cds) rfl (by simp only [nrm,xdn,reduceIte,Nat.reduceLT,Nat.reduceSub,Nat.reduceAdd,Int.toNat_natCast,e1,e2,e3,e4,e5,e6,e7,e8,e9,e10,e11,e12,e13,e14];exact pi104 hm hf h3 k) (by simp only [nrm,xdn,reduceIte,Nat.reduceLT,Nat.reduceSub,Nat.reduceAdd,Int.toNat_natCast,e1,e2,e3,e4,e5,e6,e7,e8,e9,e10,e11,e12,e13,e14,fn104]) ?_
  generalize aL m t.f k=r
  have hB:=Jo ht hto (!r.1.done) r.1
  refine ag ?_ (aj ?_)
  ·simp only [nrm,xdn,reduceIte,Nat.reduceLT,Nat.reduceSub,Nat.reduceAdd,Int.toNat_natCast,CD.ax,aC,Frm.cds,Mem.cds,lca]
   exact cls hB
  ·simp only [nrm,xdn,reduceIte,Nat.reduceLT,Nat.reduceSub,Nat.reduceAdd,Int.toNat_natCast,CD.ax,aC,Frm.cds,hB,Wrd.cds,Wrd.gone,Mem.cds,lca]
 simp only [nrm,xdn,reduceIte,Nat.reduceLT,Nat.reduceSub,Nat.reduceAdd,Int.toNat_natCast,e1] at h3
 rw [if_neg h3]
 refine G0 (fun h4=>?_) (fun h4=>?_)
 ·simp only [nrm,xdn,reduceIte,Nat.reduceLT,Nat.reduceSub,Nat.reduceAdd,Int.toNat_natCast,e1] at h4
  rw [if_pos (.inl h4)]
  refine ai d110 ((aB m t.f k).2.cds ++ (aB m t.f k).1.cds) rfl (by simp only [nrm,xdn,reduceIte,Nat.reduceLT,Nat.reduceSub,Nat.reduceAdd,Int.toNat_natCast,e1,e2,e3,e4,e5,e6,e7,e8,e9,e10,e11,e12,e13,e14];exact pi110 hm hf (.inl h4) k) (by simp only [nrm,xdn,reduceIte,Nat.reduceLT,Nat.reduceSub,Nat.reduceAdd,Int.toNat_natCast,e1,e2,e3,e4,e5,e6,e7,e8,e9,e10,e11,e12,e13,e14,fn110]) ?_
  generalize aB m t.f k=r
  have hB:=Jo ht hto (!r.1.done) r.1
  refine ag ?_ (aj ?_)
  ·simp only [nrm,xdn,reduceIte,Nat.reduceLT,Nat.reduceSub,Nat.reduceAdd,Int.toNat_natCast,CD.ax,aC,Frm.cds,Mem.cds,lca]
   exact cls hB
  ·simp only [nrm,xdn,reduceIte,Nat.reduceLT,Nat.reduceSub,Nat.reduceAdd,Int.toNat_natCast,CD.ax,aC,Frm.cds,hB,Wrd.cds,Wrd.gone,Mem.cds,lca]
 simp only [nrm,xdn,reduceIte,Nat.reduceLT,Nat.reduceSub,Nat.reduceAdd,Int.toNat_natCast,e1] at h4
 refine G0 (fun h5=>?_) (fun h5=>?_)
 ·simp only [nrm,xdn,reduceIte,Nat.reduceLT,Nat.reduceSub,Nat.reduceAdd,Int.toNat_natCast,e1] at h5
  rw [if_pos (.inr h5)]
  refine ai d110 ((aB m t.f k).2.cds ++ (aB m t.f k).1.cds) rfl (by simp only [nrm,xdn,reduceIte,Nat.reduceLT,Nat.reduceSub,Nat.reduceAdd,Int.toNat_natCast,e1,e2,e3,e4,e5,e6,e7,e8,e9,e10,e11,e12,e13,e14];exact pi110 hm hf (.inr h5) k) (by simp only [nrm,xdn,reduceIte,Nat.reduceLT,Nat.reduceSub,Nat.reduceAdd,Int.toNat_natCast,e1,e2,e3,e4,e5,e6,e7,e8,e9,e10,e11,e12,e13,e14,fn110]) ?_
  generalize aB m t.f k=r
  have hB:=Jo ht hto (!r.1.done) r.1
  refine ag ?_ (aj ?_)
  ·simp only [nrm,xdn,reduceIte,Nat.reduceLT,Nat.reduceSub,Nat.reduceAdd,Int.toNat_natCast,CD.ax,aC,Frm.cds,Mem.cds,lca]
   exact cls hB
  ·simp only [nrm,xdn,reduceIte,Nat.reduceLT,Nat.reduceSub,Nat.reduceAdd,Int.toNat_natCast,CD.ax,aC,Frm.cds,hB,Wrd.cds,Wrd.gone,Mem.cds,lca]
 simp only [nrm,xdn,reduceIte,Nat.reduceLT,Nat.reduceSub,Nat.reduceAdd,Int.toNat_natCast,e1] at h5
 rw [if_neg (fun x=>x.elim h4 h5)]
 have h6 : t.f.c.kind=6:=by
  have:=hf.call
  unfold bf at this
  rw [if_neg (by omega),if_neg (by omega),if_neg (by omega)] at this
  split at this
  ·assumption
  ·cases this
 refine G0 (fun _=>?_) (fun h7=>?_)
 ·have hs : 0≤t.f.c.slot∧t.f.c.slot < m.slots.length:=by
   have:=hf.call
   unfold bf at this
   rw [if_neg (by omega),if_neg (by omega),if_neg (by omega),if_pos h6] at this
   split at this
   ·cases this
   ·omega
  refine ag (by simp only [nrm,xdn,reduceIte,Nat.reduceLT,Nat.reduceSub,Nat.reduceAdd,Int.toNat_natCast,e15,eo]) (ai d179 [.i (indexOf t.f.c.slot t.held 0)] rfl trivial (by simp only [nrm,xdn,reduceIte,Nat.reduceLT,Nat.reduceSub,Nat.reduceAdd,Int.toNat_natCast,e15,es,e6,d179,bY]) (G0 (fun h8=>?_) (fun h8=>?_)))
  ·simp only [nrm,xdn,reduceIte,Nat.reduceLT,Nat.reduceSub,Nat.reduceAdd] at h8
   rw [if_pos h8]
   have hu:=tx t.f.c.slot t.held 0
   have hr:=hm.refs hs.1 hs.2
   have hnf:=hm.nf
   refine ai d167 (put m t.f.c.slot).cds rfl (by simp only [nrm,xdn,reduceIte,Nat.reduceLT,Nat.reduceSub,Nat.reduceAdd,Int.toNat_natCast,e6,d167,mem_of,aA];exact ⟨hs.1,hs.2,hr.1,hr.2,by omega⟩) (by simp only [nrm,xdn,reduceIte,Nat.reduceLT,Nat.reduceSub,Nat.reduceAdd,Int.toNat_natCast,e6,d167,mem_of,aA]) ?_
   generalize put m t.f.c.slot=q
   refine G1 (by simp only [nrm,xdn,reduceIte,Nat.reduceLT,Nat.reduceSub,Nat.reduceAdd,Mem.cds];omega) (ai d215 [af (t.held.take (indexOf t.f.c.slot t.held 0).toNat ++ t.held.drop (indexOf t.f.c.slot t.held 0 + 1).toNat)] rfl ?_ ?_ ?_)
   ·simp only [nrm,xdn,reduceIte,Nat.reduceLT,Nat.reduceSub,Nat.reduceAdd,Mem.cds,Int.toNat_natCast,e15,es,d215,bY,lca];omega
   ·simp only [nrm,xdn,reduceIte,Nat.reduceLT,Nat.reduceSub,Nat.reduceAdd,Mem.cds,Int.toNat_natCast,e15,es,d215,bY,lca]
   generalize t.held.take (indexOf t.f.c.slot t.held 0).toNat ++ t.held.drop (indexOf t.f.c.slot t.held 0 + 1).toNat=l
   refine ai d44 (ay t.f 0).cds rfl trivial (by simp only [nrm,xdn,reduceIte,Nat.reduceLT,Nat.reduceSub,Nat.reduceAdd,Mem.cds,Int.toNat_natCast,e1,e2,e3,e4,e5,e6,e7,e8,e9,e10,e11,e12,e13,e14,d44,dJ]) ?_
   generalize ay t.f 0=F
   have hB:=put_D ht hto (!F.done) F l
   refine ag ?_ (aj ?_)
   ·simp only [nrm,xdn,reduceIte,Nat.reduceLT,Nat.reduceSub,Nat.reduceAdd,Int.toNat_natCast,CD.ax,aC,Frm.cds,Mem.cds,lca]
    exact cls hB
   ·simp only [nrm,xdn,reduceIte,Nat.reduceLT,Nat.reduceSub,Nat.reduceAdd,Int.toNat_natCast,CD.ax,aC,Frm.cds,hB,Wrd.cds,Wrd.gone,Mem.cds,lca]
  ·simp only [nrm,xdn,reduceIte,Nat.reduceLT,Nat.reduceSub,Nat.reduceAdd] at h8
   rw [if_neg h8]
   refine ai d44 (ay t.f 0).cds rfl trivial (by simp only [nrm,xdn,reduceIte,Nat.reduceLT,Nat.reduceSub,Nat.reduceAdd,Int.toNat_natCast,e1,e2,e3,e4,e5,e6,e7,e8,e9,e10,e11,e12,e13,e14,d44,dJ]) ?_
   generalize ay t.f 0=F
   have hB : CD.l _=az (ts.modify k fun t=>{ t with busy:=!F.done,f:=F}):=put_A2 ht hto (!F.done) F
   refine ag ?_ (aj ?_)
   ·simp only [nrm,xdn,reduceIte,Nat.reduceLT,Nat.reduceSub,Nat.reduceAdd,Int.toNat_natCast,e15,es,CD.ax,aC,Frm.cds,Mem.cds,lca]
    exact cls hB
   ·simp only [nrm,xdn,reduceIte,Nat.reduceLT,Nat.reduceSub,Nat.reduceAdd,Int.toNat_natCast,e15,es,CD.ax,aC,Frm.cds,hB,Wrd.cds,Wrd.gone,Mem.cds,lca]
 ·simp only [nrm,xdn,reduceIte,Nat.reduceLT,Nat.reduceSub,Nat.reduceAdd,Int.toNat_natCast,e1] at h7
  exact absurd h6 h7
end Go.Proofs.Ytpmamacjepcdmaa
