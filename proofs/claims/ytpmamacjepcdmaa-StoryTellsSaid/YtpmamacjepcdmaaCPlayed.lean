import Derived.Test.YtpmamacjepcdmaaCSweep
import Derived.Test.YtpmamacjepcdmaaCDrop2
import Derived.Test.YtpmamacjepcdmaaCLock
import Derived.Test.YtpmamacjepcdmaaCLook2
namespace Go.Proofs.Ytpmamacjepcdmaa
open Go Go.Sy Go.RowKit
set_option linter.unusedSimpArgs false
set_option linter.unusedVariables false
set_option maxRecDepth 20000
def s111 : Sig:=⟨[.ptr [.own 52 kS,.own 3 kI,.own 3 kI,.own 3 kI,.int .i64],.agg [.int .i64,.int .i64,.int .i64,.int .i64,.int .i64,.int .i64,.int .i64,.int .i64,.int .i64,.int .i64,.int .i64,.fz kK,.bool,.int .i64],.one (.int .i64)],[.agg [.int .i64,.int .i64,.int .i64,.int .i64,.int .i64,.int .i64,.int .i64,.int .i64,.int .i64,.int .i64,.int .i64,.fz kK,.bool,.int .i64]]⟩
def d111 : DC:=⟨s111,fun l=>aZ (Mem.of l)∧bV (Mem.of l) (Frm.of (l.drop 5))∧((Frm.of (l.drop 5)).c.kind=4∨(Frm.of (l.drop 5)).c.kind=5),fun l=>(aB (Mem.of l) (Frm.of (l.drop 5)) (l.getD 19 .u).int).2.cds ++ (aB (Mem.of l) (Frm.of (l.drop 5)) (l.getD 19 .u).int).1.cds⟩
theorem fn111 (m : Mem) (f : Frm) (x : Int) : d111.fn [au m.slots,af m.heads,af m.free,af m.locks,.i m.now,.i f.c.kind,.i f.c.k.a,.i f.c.k.b,.i f.c.time,.i f.c.bucket,.i f.c.slot,.i f.pc,.i f.cur,.i f.prev,.i f.slot,.i f.n,bS f.keys,.b f.done,.i f.e,.i x]=(aB m f x).2.cds ++ (aB m f x).1.cds:=by
 simp only [d111,mem_of,aA,List.drop_succ_cons,List.drop_zero,dJ,List.getD_cons_zero,List.getD_cons_succ,CD.aR]
theorem pi111 {m : Mem} {f : Frm} (hm : aZ m) (hf : bV m f) (hk : f.c.kind=4∨f.c.kind=5) (x : Int) : d111.pre [au m.slots,af m.heads,af m.free,af m.locks,.i m.now,.i f.c.kind,.i f.c.k.a,.i f.c.k.b,.i f.c.time,.i f.c.bucket,.i f.c.slot,.i f.pc,.i f.cur,.i f.prev,.i f.slot,.i f.n,bS f.keys,.b f.done,.i f.e,.i x]:=by
 simp only [d111,mem_of,aA,List.drop_succ_cons,List.drop_zero,dJ]
 exact ⟨hm,hf,hk⟩
def l111 : List (Nat × Ct):=[(49,d49.ct),(189,d189.ct),(89,d89.ct),(68,d68.ct),(190,d190.ct)]
noncomputable def z111 : Cx:={ T:=ttA,C:=sigs l111,F:=[(194,Try.f194),(183,Try.f183),(184,Try.f184)],hints:=[],sig:=s111}
def t111 : Tree :=
 (.call 49 [.var 0,.var 1,.var 2,.var 3,.var 4,.var 5,.var 6,.var 7,.var 8,.var 9,.var 10] 20
 (.ite (.eq (.var 11) (.int 0))
 (.call 189 [.var 0,.var 1,.var 2,.var 3,.var 4,.var 20,.var 19] 21
 (.ite (.var 26)
 (.ret [.var 21,.var 22,.var 23,.var 24,.var 25,.var 5,.var 6,.var 7,.var 8,.var 9,.var 10,.int 1,.var 12,.var 13,.var 14,.var 15,.var 16,.var 17,.var 18])
 (.ret [.var 21,.var 22,.var 23,.var 24,.var 25,.var 5,.var 6,.var 7,.var 8,.var 9,.var 10,.var 11,.var 12,.var 13,.var 14,.var 15,.var 16,.var 17,.var 18])))
 (.ite (.eq (.var 11) (.int 1))
 (.need (.le (.int 0) (.var 20))
 (.need (.lt (.var 20) (.len (.var 1)))
 (.ret [.var 0,.var 1,.var 2,.var 3,.var 4,.var 5,.var 6,.var 7,.var 8,.var 9,.var 10,.int 2,.cell (.var 1) (.var 20) 0,.int 0,.var 14,.var 15,.var 16,.var 17,.var 18])))
 (.ite (.eq (.var 11) (.int 2))
 (.ite (.not (.lt (.int 0) (.var 12)))
 (.ret [.var 0,.var 1,.var 2,.var 3,.var 4,.var 5,.var 6,.var 7,.var 8,.var 9,.var 10,.int 6,.var 12,.var 13,.var 14,.var 15,.var 16,.var 17,.var 18])
 (.need (.fit (.sub (.var 12) (.int 1)))
 (.need (.le (.int 0) (.sub (.var 12) (.int 1)))
 (.need (.lt (.sub (.var 12) (.int 1)) (.len (.var 0)))
 (.ite (.eq (.var 5) (.int 5))
 (.ite (.lt (.len (.var 16)) (.int 100))
 (.need (.le (.len (.var 16)) (.int 8796093022208))
 (.need (.le (.add (.len (.var 16)) (.int 1)) (.int 8796093022208))
 (.ret [.var 0,.var 1,.var 2,.var 3,.var 4,.var 5,.var 6,.var 7,.var 8,.var 9,.var 10,.int 3,.var 12,.var 13,.var 14,.var 15,.app (.app .nil (.var 16)) (.cons (.cell (.var 0) (.sub (.var 12) (.int 1)) 1) (.cons (.cell (.var 0) (.sub (.var 12) (.int 1)) 2) .row0)),.var 17,.var 18])))
 (.ret [.var 0,.var 1,.var 2,.var 3,.var 4,.var 5,.var 6,.var 7,.var 8,.var 9,.var 10,.int 3,.var 12,.var 13,.var 14,.var 15,.var 16,.var 17,.var 18]))
 (.ite (.lt (.var 4) (.cell (.var 0) (.sub (.var 12) (.int 1)) 3))
 (.ret [.var 0,.var 1,.var 2,.var 3,.var 4,.var 5,.var 6,.var 7,.var 8,.var 9,.var 10,.int 3,.var 12,.var 13,.var 14,.var 15,.var 16,.var 17,.var 18])
 (.ret [.var 0,.var 1,.var 2,.var 3,.var 4,.var 5,.var 6,.var 7,.var 8,.var 9,.var 10,.int 4,.var 12,.var 13,.var 14,.var 15,.var 16,.var 17,.var 18])))))))
 (.ite (.eq (.var 11) (.int 3))
 (.ite (.lt (.int 0) (.var 12))
 (.need (.fit (.sub (.var 12) (.int 1)))
 (.need (.le (.int 0) (.sub (.var 12) (.int 1)))
 (.need (.lt (.sub (.var 12) (.int 1)) (.len (.var 0)))
 (.ret [.var 0,.var 1,.var 2,.var 3,.var 4,.var 5,.var 6,.var 7,.var 8,.var 9,.var 10,.int 2,.cell (.var 0) (.sub (.var 12) (.int 1)) 5,.var 12,.var 14,.var 15,.var 16,.var 17,.var 18]))))
 (.ret [.var 0,.var 1,.var 2,.var 3,.var 4,.var 5,.var 6,.var 7,.var 8,.var 9,.var 10,.int 6,.var 12,.var 13,.var 14,.var 15,.var 16,.var 17,.var 18]))
 (.ite (.eq (.var 11) (.int 4))
 (.ite (.lt (.int 0) (.var 12))
 (.need (.fit (.sub (.var 12) (.int 1)))
 (.need (.le (.int 0) (.sub (.var 12) (.int 1)))
 (.need (.lt (.sub (.var 12) (.int 1)) (.len (.var 0)))
 (.call 89 [.var 0,.var 1,.var 2,.var 3,.var 4,.var 13,.sub (.var 12) (.int 1),.var 20] 21
 (.ret [.var 21,.var 22,.var 23,.var 24,.var 25,.var 5,.var 6,.var 7,.var 8,.var 9,.var 10,.int 5,.cell (.var 0) (.sub (.var 12) (.int 1)) 5,.var 13,.sub (.var 12) (.int 1),.var 15,.var 16,.var 17,.var 18])))))
 (.ret [.var 0,.var 1,.var 2,.var 3,.var 4,.var 5,.var 6,.var 7,.var 8,.var 9,.var 10,.int 6,.var 12,.var 13,.var 14,.var 15,.var 16,.var 17,.var 18]))
 (.ite (.eq (.var 11) (.int 5))
 (.ite (.le (.int 0) (.var 14))
 (.call 68 [.var 0,.var 1,.var 2,.var 3,.var 4,.var 14] 21
 (.ite (.lt (.var 15) (.int 1000000))
 (.need (.fit (.add (.var 15) (.int 1)))
 (.ret [.var 21,.var 22,.var 23,.var 24,.var 25,.var 5,.var 6,.var 7,.var 8,.var 9,.var 10,.int 2,.var 12,.var 13,.int (-1),.add (.var 15) (.int 1),.var 16,.var 17,.var 18]))
 (.ret [.var 21,.var 22,.var 23,.var 24,.var 25,.var 5,.var 6,.var 7,.var 8,.var 9,.var 10,.int 2,.var 12,.var 13,.int (-1),.var 15,.var 16,.var 17,.var 18])))
 (.ret [.var 0,.var 1,.var 2,.var 3,.var 4,.var 5,.var 6,.var 7,.var 8,.var 9,.var 10,.int 6,.var 12,.var 13,.var 14,.var 15,.var 16,.var 17,.var 18]))
 (.ite (.eq (.var 11) (.int 6))
 (.call 190 [.var 0,.var 1,.var 2,.var 3,.var 4,.var 20,.var 19] 21
 (.ret [.var 21,.var 22,.var 23,.var 24,.var 25,.var 5,.var 6,.var 7,.var 8,.var 9,.var 10,.var 11,.var 12,.var 13,.var 14,.var 15,.var 16,.bool true,.int 0]))
 (.ret [.var 0,.var 1,.var 2,.var 3,.var 4,.var 5,.var 6,.var 7,.var 8,.var 9,.var 10,.int 6,.var 12,.var 13,.var 14,.var 15,.var 16,.var 17,.var 18])))))))))
theorem run111 : run z111 6000 [.code (Try.f111.body.getD .skip),.fin (bt z111 Try.f111.results.toList 50)] { fn:=111,tmps:=z111.sig.aM ++ List.replicate (Try.f111.ntmps - z111.sig.aM.length) (.v (.one .undef)),stk:=[],h:=z111.sig.h0,nx:=z111.sig.ins.length,known:=[]}=t111:=by kernel_rfl
set_option maxHeartbeats 16000000 in
theorem ok111 : cB Try.prog 111 d111.ct:=by
 refine aD (d:=d111) (Z:=z111) (Γ:=gam l111) (fn:=Try.f111) (c:=Try.f111.body.getD .skip) (bg tok mixed (all_cons ok49 (all_cons ok189 (all_cons ok89 (all_cons ok68 (all_cons ok190 all_nil))))) (dX (c:=Try.f194.body.getD .skip) Try.func194 (by kernel_rfl) (by kernel_rfl) (dX (c:=Try.f183.body.getD .skip) Try.func183 (by kernel_rfl) (by kernel_rfl) (dX (c:=Try.f184.body.getD .skip) Try.func184 (by kernel_rfl) (by kernel_rfl) bh)))) Try.func111 (by kernel_rfl) (by kernel_rfl) rfl run111 fun E hk hp=>?_
 obtain ⟨hk0,hk1,hk2,hk3,hk4,hk5,hk6,hk7,hk8,hk9,hk10,hk11,hk12,hk13,hk14,hk15,hk16,hk17,hk18,hk19,_⟩:=hk
 obtain ⟨m,e0,e1,e2,e3,e4,b0,b1,b2,b3⟩:=cv (d0:=E 0) (d1:=E 1) (d2:=E 2) (d3:=E 3) (d4:=E 4) hk0 hk1 hk2 hk3 hk4
 obtain ⟨f,e5,e6,e7,e8,e9,e10,e11,e12,e13,e14,e15,e16,e17,e18,b16⟩:=ja (d0:=E 5) (d1:=E 6) (d2:=E 7) (d3:=E 8) (d4:=E 9) (d5:=E 10) (d6:=E 11) (d7:=E 12) (d8:=E 13) (d9:=E 14) (d10:=E 15) (d11:=E 16) (d12:=E 17) (d13:=E 18) hk5 hk6 hk7 hk8 hk9 hk10 hk11 hk12 hk13 hk14 hk15 hk16 hk17 hk18
 obtain ⟨x,e19⟩:=ok_int (d:=E 19) hk19
 have el : aH E d111.sig.ins.length=[au m.slots,af m.heads,af m.free,af m.locks,.i m.now,.i f.c.kind,.i f.c.k.a,.i f.c.k.b,.i f.c.time,.i f.c.bucket,.i f.c.slot,.i f.pc,.i f.cur,.i f.prev,.i f.slot,.i f.n,bS f.keys,.b f.done,.i f.e,.i x]:=by
  show [E 0,E 1,E 2,E 3,E 4,E 5,E 6,E 7,E 8,E 9,E 10,E 11,E 12,E 13,E 14,E 15,E 16,E 17,E 18,E 19]=_
  rw [e0,e1,e2,e3,e4,e5,e6,e7,e8,e9,e10,e11,e12,e13,e14,e15,e16,e17,e18,e19]
 rw [el] at hp
 rw [el]
 rw [Env.bJ el]
 clear el e0 e1 e2 e3 e4 e5 e6 e7 e8 e9 e10 e11 e12 e13 e14 e15 e16 e17 e18 e19
 rw [fn111]
 simp only [d111,mem_of,aA,List.drop_succ_cons,List.drop_zero,dJ] at hp
 obtain ⟨hm,hf,hk⟩ : aZ m∧bV m f∧(f.c.kind=4∨f.c.kind=5):=hp
 have hb:=aQ hm hf.call (by omega)
 have gs:=hm.ns
 have g4:=hm.nh4
 have eH : ((af m.heads).rows.getD (aa m f.c).toNat []).getD 0 .u=.i (aO m (aa m f.c)):=iK (by omega)
 obtain ⟨f1,f2,f3,f4,f5,f6,f7,f8,f9,f10,f11,f12,f13⟩:=id hf
 have eN : 0 < f.cur→((au m.slots).rows.getD (f.cur - 1).toNat []).getD 5 .u=.i (at1 m f).next:=fun _=>qa (by omega)
 have eK1 : 0 < f.cur→((au m.slots).rows.getD (f.cur - 1).toNat []).getD 1 .u=.i (at1 m f).k.a:=fun _=>qc (by omega)
 have eK2 : 0 < f.cur→((au m.slots).rows.getD (f.cur - 1).toNat []).getD 2 .u=.i (at1 m f).k.b:=fun _=>qb (by omega)
 have a1 : m.slots.getD (f.cur - 1).toNat default=at1 m f:=rfl
 have a2 : m.slots.getD f.slot.toNat default=at2 m f:=rfl
 unfold t111
 repeat'
  show Tree.den _ _ _ _ _
  first
   | (with_reducible refine G0 (b:=.var _) (fun hx=>?_) (fun hx=>?_)) <;> simp only [nrm,xdn,reduceIte,Nat.reduceLT,Nat.reduceSub,Nat.reduceAdd,cG,cF,cy,cx,cE,aG,a1,a2,bX,Mem.cds,lca,Bool.not_eq_true',Bool.not_eq_false'] at hx
   | (with_reducible refine G0 (fun h=>?_) (fun h=>?_)) <;> simp only [nrm,xdn,reduceIte,Nat.reduceLT,Nat.reduceSub,Nat.reduceAdd,cG,cF,cy,cx,cE,aG,a1,a2,bX,Mem.cds,lca,Bool.not_eq_true',Bool.not_eq_false'] at h <;> try first | replace h:=AW h | replace h:=AY h
   | (with_reducible refine eh ?_ ?_;· simp only [nrm,xdn,reduceIte,Nat.reduceLT,Nat.reduceSub,Nat.reduceAdd,aN,aw,bX,cG,cF,cy,cx,cE,aG,a1,a2];omega)
   | (with_reducible refine lv ?_ ?_;· simp only [nrm,xdn,reduceIte,Nat.reduceLT,Nat.reduceSub,Nat.reduceAdd,aN,aw,bX,cG,cF,cy,cx,cE,aG,a1,a2];omega)
   | (with_reducible refine G1 ?_ ?_;· simp only [nrm,xdn,reduceIte,Nat.reduceLT,Nat.reduceSub,Nat.reduceAdd,aN,aw,bX,cG,cF,cy,cx,cE,aG,a1,a2];omega)
   | with_reducible refine aj ?_
   | refine ai d49 [.i (aa m f.c)] rfl trivial (by simp only [nrm,xdn,reduceIte,Nat.reduceLT,Nat.reduceSub,Nat.reduceAdd,fn49]) ?_
   | refine ai d189 ((lock m (aa m f.c) x).1.cds ++ [.b (lock m (aa m f.c) x).2]) rfl (by simp only [nrm,xdn,reduceIte,Nat.reduceLT,Nat.reduceSub,Nat.reduceAdd];exact pi189 hm hb.1 hb.2) (by simp only [nrm,xdn,reduceIte,Nat.reduceLT,Nat.reduceSub,Nat.reduceAdd,fn189]) ?_
   | refine ai d89 (cut m f.prev (f.cur - 1) (aa m f.c)).cds rfl (by simp only [nrm,xdn,reduceIte,Nat.reduceLT,Nat.reduceSub,Nat.reduceAdd];exact pre89 (by omega) (by omega) (by omega) (by omega) hb.1 hb.2) (by simp only [nrm,xdn,reduceIte,Nat.reduceLT,Nat.reduceSub,Nat.reduceAdd,fn89]) ?_
   | refine ai d68 (put m f.slot).cds rfl (by simp only [nrm,xdn,reduceIte,Nat.reduceLT,Nat.reduceSub,Nat.reduceAdd];exact pi68 hm (by omega) (by omega)) (by simp only [nrm,xdn,reduceIte,Nat.reduceLT,Nat.reduceSub,Nat.reduceAdd,fn68]) ?_
   | refine ai d190 (unlock m (aa m f.c) x).cds rfl (by simp only [nrm,xdn,reduceIte,Nat.reduceLT,Nat.reduceSub,Nat.reduceAdd];exact pi190 hm hb.1 hb.2) (by simp only [nrm,xdn,reduceIte,Nat.reduceLT,Nat.reduceSub,Nat.reduceAdd,fn190]) ?_
 all_goals first | (exfalso;omega) | skip
 all_goals unfold aB
 all_goals repeat (first | rw [if_neg (by omega)] | rw [if_pos (by omega)] | rw [if_pos (by assumption)] | rw [if_neg (by assumption)] | rw [if_neg (ne_true_of_eq_false (by assumption))] | rw [if_pos (Or.inl (by assumption))] | rw [if_pos (Or.inr (by assumption))] | rw [if_neg (fun y=>Or.elim y (fun z=>z (by assumption)) (fun z=>Bool.false_ne_true (z.symm.trans (by assumption))))])
 all_goals try rw [sb hx]
 all_goals try rw [rX hx]
 all_goals try simp only [nrm,xdn,reduceIte,Nat.reduceLT,Nat.reduceSub,Nat.reduceAdd,Mem.cds,Frm.cds,ay,lca,CD.row,List.headD_cons,eH,cR,Bool.false_eq_true,Bool.true_eq_false]
 all_goals try simp only [nrm,xdn,reduceIte,Nat.reduceLT,Nat.reduceSub,Nat.reduceAdd,Mem.cds,Frm.cds,ay,lca,CD.row,List.headD_cons,eH,cR,Bool.false_eq_true,Bool.true_eq_false,hx]
 all_goals try simp only [nrm,xdn,reduceIte,Nat.reduceLT,Nat.reduceSub,Nat.reduceAdd,Mem.cds,Frm.cds,ay,lca,CD.row,List.headD_cons,eH,cR,Bool.false_eq_true,Bool.true_eq_false,hc]
 all_goals try simp only [nrm,xdn,reduceIte,Nat.reduceLT,Nat.reduceSub,Nat.reduceAdd,Mem.cds,Frm.cds,ay,lca,CD.row,List.headD_cons,eH,cR,Bool.false_eq_true,Bool.true_eq_false,ht]
 all_goals try simp only [nrm,xdn,reduceIte,Nat.reduceLT,Nat.reduceSub,Nat.reduceAdd,Mem.cds,Frm.cds,ay,lca,CD.row,List.headD_cons,eH,cR,Bool.false_eq_true,Bool.true_eq_false,eN (by omega),eK1 (by omega),eK2 (by omega)]
 all_goals first | (have e14 : f.slot=-1:=(by omega);simp only [e14];done) | (have e15 : f.n=1000000:=(by omega);simp only [e15];done)
end Go.Proofs.Ytpmamacjepcdmaa

namespace Go.Proofs.Ytpmamacjepcdmaa
open Go Go.Sy Go.RowKit
set_option linter.unusedSimpArgs false
set_option linter.unusedVariables false
def Iv (w : Wrd) (x : Pik) : Wrd × Int:=if (bN w.bm x).2≠0 then (Wrd.none,(bN w.bm x).2) else ((bN w.bm x).1,0)
theorem put_F {ts : List Tsk} {k : Nat} {t : Tsk} (ht : ts.getD k default=t) (hto : t.own=true) (b : Bool) (f : Frm) : CD.l ((az ts).rows.modify k fun r=>(((((((((((((((r.set 0 (.b b)).set 1 (.i f.c.kind)).set 2 (.i f.c.k.a)).set 3 (.i f.c.k.b)).set 4 (.i f.c.time)).set 5 (.i f.c.bucket)).set 6 (.i f.c.slot)).set 7 (.i f.pc)).set 8 (.i f.cur)).set 9 (.i f.prev)).set 10 (.i f.slot)).set 11 (.i f.n)).set 12 (bS f.keys)).set 13 (.b f.done)).set 14 (.i f.e)))=az (ts.modify k fun t=>{ t with busy:=b,f:=f}) :=
 gH (by rw [ht,gZ hto];simp only [Tsk.iv,Tsk.hd,hto,if_true];rfl)
theorem put_G {ts : List Tsk} {k : Nat} {t : Tsk} (ht : ts.getD k default=t) (b : Bool) (f : Frm) : CD.l ((az ts).rows.modify k fun r=>((((((((((((((((r.set 15 (af t.held)).set 1 (.i f.c.kind)).set 2 (.i f.c.k.a)).set 3 (.i f.c.k.b)).set 4 (.i f.c.time)).set 5 (.i f.c.bucket)).set 6 (.i f.c.slot)).set 7 (.i f.pc)).set 8 (.i f.cur)).set 9 (.i f.prev)).set 10 (.i f.slot)).set 11 (.i f.n)).set 12 (bS f.keys)).set 13 (.b f.done)).set 14 (.i f.e)).set 0 (.b b)))=az (ts.modify k fun t=>{ t with busy:=b,f:=f,own:=false}) :=
 gH (by rw [ht];rfl)
theorem put_H {ts : List Tsk} {k : Nat} {t : Tsk} (ht : ts.getD k default=t) : CD.l ((az ts).rows.modify k fun r=>r.set 15 (af t.held))=az (ts.modify k fun t=>{ t with own:=false}) :=
 gH (by rw [ht];rfl)
theorem La (k : Nat) (f : Tsk→Tsk) (ts : List Tsk) : G2 (ts.modify k fun t=>{ f t with own:=false})=G2 (ts.modify k f):=by
 have : ∀ (ts : List Tsk) (k : Nat),(ts.modify k fun t=>{ f t with own:=false}).map Tsk.row=(ts.modify k f).map Tsk.row:=fun ts=>by
  induction ts with
  | nil=>intro k;simp
  | cons a l ih=>intro k;cases k with
   | zero=>simp;rfl
   | succ k=>simp [ih k]
 unfold G2
 rw [this]
theorem K3 {α : Type} [DecidableEq α] {x : α} {l : List α} {i : Nat} (h : l.length≤i) : indexOf x (l.drop i) i=-1:=by
 rw [List.drop_eq_nil_of_le h];rfl
def s158 : Sig:=⟨[.agg [.fz kS,.fz kI,.fz kI,.fz kI,.int .i64,.fz kT],.agg [.int .i64,.bool,.bool,.int .i64,.int .i64,.int .i64,.int .i64,.int .i64,.int .i64]],[.agg [.fz kS,.fz kI,.fz kI,.fz kI,.int .i64,.fz kT],.one (.int .i64)]⟩
def d158 : DC:=⟨s158,fun l=>WIn (Wrd.of l).bm,fun l=>(Iv (Wrd.of l) (Pik.of (l.drop 6))).1.tM ++ [.i (Iv (Wrd.of l) (Pik.of (l.drop 6))).2]⟩
def l158 : List (Nat × Ct):=[(156,d156.ct),(45,d45.ct),(98,d98.ct),(102,d102.ct),(108,d108.ct),(105,d105.ct),(68,d68.ct),(111,d111.ct)]
noncomputable def z158 : Cx:={ T:=ttA,C:=sigs l158,F:=[(203,Try.f203),(184,Try.f184)],hints:=[⟨158,38,false,[(209,.lt),(207,.fz kI)],[],[],[],0,0,false⟩],sig:=s158}
def t158 : Tree :=
 (.call 156 [.var 0,.var 1,.var 2,.var 3,.var 4,.var 5] 15
 (.ite (.var 8)
 (.ite (.eq (.var 19) (.int 1000000))
 (.ret [.nil,.nil,.nil,.nil,.int 0,.nil,.int 7])
 (.need (.fit (.add (.var 19) (.int 1)))
 (.need (.clean (.var 20) 15)
 (.ret [.var 15,.var 16,.var 17,.var 18,.add (.var 19) (.int 1),.shuts (.var 20) 15,.int 0]))))
 (.ite (.lt (.var 6) (.int 0))
 (.ret [.nil,.nil,.nil,.nil,.int 0,.nil,.int 5])
 (.ite (.le (.len (.var 20)) (.var 6))
 (.ret [.nil,.nil,.nil,.nil,.int 0,.nil,.int 5])
 (.need (.le (.int 0) (.var 6))
 (.need (.lt (.var 6) (.len (.var 20)))
 (.ite (.not (.var 7))
 (.call 45 [.var 15,.var 16,.var 17,.var 18,.var 19,.var 9,.var 10,.var 11,.var 12,.var 13,.var 14] 21
 (.ite (.cell (.var 20) (.var 6) 0)
 (.ret [.nil,.nil,.nil,.nil,.int 0,.nil,.int 8])
 (.ite (.not (.eq (.var 21) (.int 0)))
 (.ret [.nil,.nil,.nil,.nil,.int 0,.nil,.var 21])
 (.ite (.eq (.var 9) (.int 1))
 (.need (.isO (.cell (.var 20) (.var 6) 15))
 (.ite (.eq (.len (.shut (.cell (.var 20) (.var 6) 15))) (.int 100))
 (.ret [.nil,.nil,.nil,.nil,.int 0,.nil,.int 7])
 (.need (.clean (.set (.set (.set (.set (.set (.set (.set (.set (.set (.set (.set (.set (.set (.set (.set (.set (.var 20) (.var 6) 15 (.own (.shut (.cell (.var 20) (.var 6) 15)))) (.var 6) 0 (.bool true)) (.var 6) 1 (.var 9)) (.var 6) 2 (.var 10)) (.var 6) 3 (.var 11)) (.var 6) 4 (.var 12)) (.var 6) 5 (.var 13)) (.var 6) 6 (.var 14)) (.var 6) 7 (.int 0)) (.var 6) 8 (.int 0)) (.var 6) 9 (.int 0)) (.var 6) 10 (.int (-1))) (.var 6) 11 (.int 0)) (.var 6) 12 .nil) (.var 6) 13 (.bool false)) (.var 6) 14 (.int 0)) 15)
 (.ret [.var 15,.var 16,.var 17,.var 18,.var 19,.shuts (.set (.set (.set (.set (.set (.set (.set (.set (.set (.set (.set (.set (.set (.set (.set (.set (.var 20) (.var 6) 15 (.own (.shut (.cell (.var 20) (.var 6) 15)))) (.var 6) 0 (.bool true)) (.var 6) 1 (.var 9)) (.var 6) 2 (.var 10)) (.var 6) 3 (.var 11)) (.var 6) 4 (.var 12)) (.var 6) 5 (.var 13)) (.var 6) 6 (.var 14)) (.var 6) 7 (.int 0)) (.var 6) 8 (.int 0)) (.var 6) 9 (.int 0)) (.var 6) 10 (.int (-1))) (.var 6) 11 (.int 0)) (.var 6) 12 .nil) (.var 6) 13 (.bool false)) (.var 6) 14 (.int 0)) 15,.int 0]))))
 (.ite (.eq (.var 9) (.int 6))
 (.need (.isO (.cell (.var 20) (.var 6) 15))
 (.call 98 [.shut (.cell (.var 20) (.var 6) 15),.var 14] 22
 (.ite (.not (.var 22))
 (.ret [.nil,.nil,.nil,.nil,.int 0,.nil,.int 6])
 (.need (.clean (.set (.set (.set (.set (.set (.set (.set (.set (.set (.set (.set (.set (.set (.set (.set (.set (.var 20) (.var 6) 15 (.own (.shut (.cell (.var 20) (.var 6) 15)))) (.var 6) 0 (.bool true)) (.var 6) 1 (.var 9)) (.var 6) 2 (.var 10)) (.var 6) 3 (.var 11)) (.var 6) 4 (.var 12)) (.var 6) 5 (.var 13)) (.var 6) 6 (.var 14)) (.var 6) 7 (.int 0)) (.var 6) 8 (.int 0)) (.var 6) 9 (.int 0)) (.var 6) 10 (.int (-1))) (.var 6) 11 (.int 0)) (.var 6) 12 .nil) (.var 6) 13 (.bool false)) (.var 6) 14 (.int 0)) 15)
 (.ret [.var 15,.var 16,.var 17,.var 18,.var 19,.shuts (.set (.set (.set (.set (.set (.set (.set (.set (.set (.set (.set (.set (.set (.set (.set (.set (.var 20) (.var 6) 15 (.own (.shut (.cell (.var 20) (.var 6) 15)))) (.var 6) 0 (.bool true)) (.var 6) 1 (.var 9)) (.var 6) 2 (.var 10)) (.var 6) 3 (.var 11)) (.var 6) 4 (.var 12)) (.var 6) 5 (.var 13)) (.var 6) 6 (.var 14)) (.var 6) 7 (.int 0)) (.var 6) 8 (.int 0)) (.var 6) 9 (.int 0)) (.var 6) 10 (.int (-1))) (.var 6) 11 (.int 0)) (.var 6) 12 .nil) (.var 6) 13 (.bool false)) (.var 6) 14 (.int 0)) 15,.int 0])))))
 (.need (.clean (.set (.set (.set (.set (.set (.set (.set (.set (.set (.set (.set (.set (.set (.set (.set (.var 20) (.var 6) 0 (.bool true)) (.var 6) 1 (.var 9)) (.var 6) 2 (.var 10)) (.var 6) 3 (.var 11)) (.var 6) 4 (.var 12)) (.var 6) 5 (.var 13)) (.var 6) 6 (.var 14)) (.var 6) 7 (.int 0)) (.var 6) 8 (.int 0)) (.var 6) 9 (.int 0)) (.var 6) 10 (.int (-1))) (.var 6) 11 (.int 0)) (.var 6) 12 .nil) (.var 6) 13 (.bool false)) (.var 6) 14 (.int 0)) 15)
 (.ret [.var 15,.var 16,.var 17,.var 18,.var 19,.shuts (.set (.set (.set (.set (.set (.set (.set (.set (.set (.set (.set (.set (.set (.set (.set (.var 20) (.var 6) 0 (.bool true)) (.var 6) 1 (.var 9)) (.var 6) 2 (.var 10)) (.var 6) 3 (.var 11)) (.var 6) 4 (.var 12)) (.var 6) 5 (.var 13)) (.var 6) 6 (.var 14)) (.var 6) 7 (.int 0)) (.var 6) 8 (.int 0)) (.var 6) 9 (.int 0)) (.var 6) 10 (.int (-1))) (.var 6) 11 (.int 0)) (.var 6) 12 .nil) (.var 6) 13 (.bool false)) (.var 6) 14 (.int 0)) 15,.int 0])))))))
 (.ite (.not (.cell (.var 20) (.var 6) 0))
 (.ret [.nil,.nil,.nil,.nil,.int 0,.nil,.int 8])
 (.ite (.eq (.cell (.var 20) (.var 6) 1) (.int 1))
 (.call 102 [.var 15,.var 16,.var 17,.var 18,.var 19,.cell (.var 20) (.var 6) 1,.cell (.var 20) (.var 6) 2,.cell (.var 20) (.var 6) 3,.cell (.var 20) (.var 6) 4,.cell (.var 20) (.var 6) 5,.cell (.var 20) (.var 6) 6,.cell (.var 20) (.var 6) 7,.cell (.var 20) (.var 6) 8,.cell (.var 20) (.var 6) 9,.cell (.var 20) (.var 6) 10,.cell (.var 20) (.var 6) 11,.cell (.var 20) (.var 6) 12,.cell (.var 20) (.var 6) 13,.cell (.var 20) (.var 6) 14] 21
 (.ite (.var 38)
 (.ite (.eq (.var 39) (.int 0))
 (.need (.isO (.cell (.var 20) (.var 6) 15))
 (.need (.le (.add (.len (.shut (.cell (.var 20) (.var 6) 15))) (.int 1)) (.int 17592186044416))
 (.need (.clean (.set (.set (.set (.set (.set (.set (.set (.set (.set (.set (.set (.set (.set (.set (.set (.set (.var 20) (.var 6) 1 (.var 26)) (.var 6) 2 (.var 27)) (.var 6) 3 (.var 28)) (.var 6) 4 (.var 29)) (.var 6) 5 (.var 30)) (.var 6) 6 (.var 31)) (.var 6) 7 (.var 32)) (.var 6) 8 (.var 33)) (.var 6) 9 (.var 34)) (.var 6) 10 (.var 35)) (.var 6) 11 (.var 36)) (.var 6) 12 (.var 37)) (.var 6) 13 (.var 38)) (.var 6) 14 (.var 39)) (.var 6) 15 (.own (.app (.shut (.cell (.var 20) (.var 6) 15)) (.cons (.var 35) .row0)))) (.var 6) 0 (.not (.var 38))) 15)
 (.ret [.var 21,.var 22,.var 23,.var 24,.var 25,.shuts (.set (.set (.set (.set (.set (.set (.set (.set (.set (.set (.set (.set (.set (.set (.set (.set (.var 20) (.var 6) 1 (.var 26)) (.var 6) 2 (.var 27)) (.var 6) 3 (.var 28)) (.var 6) 4 (.var 29)) (.var 6) 5 (.var 30)) (.var 6) 6 (.var 31)) (.var 6) 7 (.var 32)) (.var 6) 8 (.var 33)) (.var 6) 9 (.var 34)) (.var 6) 10 (.var 35)) (.var 6) 11 (.var 36)) (.var 6) 12 (.var 37)) (.var 6) 13 (.var 38)) (.var 6) 14 (.var 39)) (.var 6) 15 (.own (.app (.shut (.cell (.var 20) (.var 6) 15)) (.cons (.var 35) .row0)))) (.var 6) 0 (.not (.var 38))) 15,.int 0]))))
 (.need (.clean (.set (.set (.set (.set (.set (.set (.set (.set (.set (.set (.set (.set (.set (.set (.set (.var 20) (.var 6) 1 (.var 26)) (.var 6) 2 (.var 27)) (.var 6) 3 (.var 28)) (.var 6) 4 (.var 29)) (.var 6) 5 (.var 30)) (.var 6) 6 (.var 31)) (.var 6) 7 (.var 32)) (.var 6) 8 (.var 33)) (.var 6) 9 (.var 34)) (.var 6) 10 (.var 35)) (.var 6) 11 (.var 36)) (.var 6) 12 (.var 37)) (.var 6) 13 (.var 38)) (.var 6) 14 (.var 39)) (.var 6) 0 (.not (.var 38))) 15)
 (.ret [.var 21,.var 22,.var 23,.var 24,.var 25,.shuts (.set (.set (.set (.set (.set (.set (.set (.set (.set (.set (.set (.set (.set (.set (.set (.var 20) (.var 6) 1 (.var 26)) (.var 6) 2 (.var 27)) (.var 6) 3 (.var 28)) (.var 6) 4 (.var 29)) (.var 6) 5 (.var 30)) (.var 6) 6 (.var 31)) (.var 6) 7 (.var 32)) (.var 6) 8 (.var 33)) (.var 6) 9 (.var 34)) (.var 6) 10 (.var 35)) (.var 6) 11 (.var 36)) (.var 6) 12 (.var 37)) (.var 6) 13 (.var 38)) (.var 6) 14 (.var 39)) (.var 6) 0 (.not (.var 38))) 15,.int 0])))
 (.need (.clean (.set (.set (.set (.set (.set (.set (.set (.set (.set (.set (.set (.set (.set (.set (.set (.var 20) (.var 6) 1 (.var 26)) (.var 6) 2 (.var 27)) (.var 6) 3 (.var 28)) (.var 6) 4 (.var 29)) (.var 6) 5 (.var 30)) (.var 6) 6 (.var 31)) (.var 6) 7 (.var 32)) (.var 6) 8 (.var 33)) (.var 6) 9 (.var 34)) (.var 6) 10 (.var 35)) (.var 6) 11 (.var 36)) (.var 6) 12 (.var 37)) (.var 6) 13 (.var 38)) (.var 6) 14 (.var 39)) (.var 6) 0 (.not (.var 38))) 15)
 (.ret [.var 21,.var 22,.var 23,.var 24,.var 25,.shuts (.set (.set (.set (.set (.set (.set (.set (.set (.set (.set (.set (.set (.set (.set (.set (.var 20) (.var 6) 1 (.var 26)) (.var 6) 2 (.var 27)) (.var 6) 3 (.var 28)) (.var 6) 4 (.var 29)) (.var 6) 5 (.var 30)) (.var 6) 6 (.var 31)) (.var 6) 7 (.var 32)) (.var 6) 8 (.var 33)) (.var 6) 9 (.var 34)) (.var 6) 10 (.var 35)) (.var 6) 11 (.var 36)) (.var 6) 12 (.var 37)) (.var 6) 13 (.var 38)) (.var 6) 14 (.var 39)) (.var 6) 0 (.not (.var 38))) 15,.int 0]))))
 (.ite (.eq (.cell (.var 20) (.var 6) 1) (.int 2))
 (.call 108 [.var 15,.var 16,.var 17,.var 18,.var 19,.cell (.var 20) (.var 6) 1,.cell (.var 20) (.var 6) 2,.cell (.var 20) (.var 6) 3,.cell (.var 20) (.var 6) 4,.cell (.var 20) (.var 6) 5,.cell (.var 20) (.var 6) 6,.cell (.var 20) (.var 6) 7,.cell (.var 20) (.var 6) 8,.cell (.var 20) (.var 6) 9,.cell (.var 20) (.var 6) 10,.cell (.var 20) (.var 6) 11,.cell (.var 20) (.var 6) 12,.cell (.var 20) (.var 6) 13,.cell (.var 20) (.var 6) 14,.var 6] 21
 (.need (.clean (.set (.set (.set (.set (.set (.set (.set (.set (.set (.set (.set (.set (.set (.set (.set (.var 20) (.var 6) 1 (.var 26)) (.var 6) 2 (.var 27)) (.var 6) 3 (.var 28)) (.var 6) 4 (.var 29)) (.var 6) 5 (.var 30)) (.var 6) 6 (.var 31)) (.var 6) 7 (.var 32)) (.var 6) 8 (.var 33)) (.var 6) 9 (.var 34)) (.var 6) 10 (.var 35)) (.var 6) 11 (.var 36)) (.var 6) 12 (.var 37)) (.var 6) 13 (.var 38)) (.var 6) 14 (.var 39)) (.var 6) 0 (.not (.var 38))) 15)
 (.ret [.var 21,.var 22,.var 23,.var 24,.var 25,.shuts (.set (.set (.set (.set (.set (.set (.set (.set (.set (.set (.set (.set (.set (.set (.set (.var 20) (.var 6) 1 (.var 26)) (.var 6) 2 (.var 27)) (.var 6) 3 (.var 28)) (.var 6) 4 (.var 29)) (.var 6) 5 (.var 30)) (.var 6) 6 (.var 31)) (.var 6) 7 (.var 32)) (.var 6) 8 (.var 33)) (.var 6) 9 (.var 34)) (.var 6) 10 (.var 35)) (.var 6) 11 (.var 36)) (.var 6) 12 (.var 37)) (.var 6) 13 (.var 38)) (.var 6) 14 (.var 39)) (.var 6) 0 (.not (.var 38))) 15,.int 0])))
 (.ite (.eq (.cell (.var 20) (.var 6) 1) (.int 3))
 (.call 105 [.var 15,.var 16,.var 17,.var 18,.var 19,.cell (.var 20) (.var 6) 1,.cell (.var 20) (.var 6) 2,.cell (.var 20) (.var 6) 3,.cell (.var 20) (.var 6) 4,.cell (.var 20) (.var 6) 5,.cell (.var 20) (.var 6) 6,.cell (.var 20) (.var 6) 7,.cell (.var 20) (.var 6) 8,.cell (.var 20) (.var 6) 9,.cell (.var 20) (.var 6) 10,.cell (.var 20) (.var 6) 11,.cell (.var 20) (.var 6) 12,.cell (.var 20) (.var 6) 13,.cell (.var 20) (.var 6) 14,.var 6] 21
 (.need (.clean (.set (.set (.set (.set (.set (.set (.set (.set (.set (.set (.set (.set (.set (.set (.set (.var 20) (.var 6) 1 (.var 26)) (.var 6) 2 (.var 27)) (.var 6) 3 (.var 28)) (.var 6) 4 (.var 29)) (.var 6) 5 (.var 30)) (.var 6) 6 (.var 31)) (.var 6) 7 (.var 32)) (.var 6) 8 (.var 33)) (.var 6) 9 (.var 34)) (.var 6) 10 (.var 35)) (.var 6) 11 (.var 36)) (.var 6) 12 (.var 37)) (.var 6) 13 (.var 38)) (.var 6) 14 (.var 39)) (.var 6) 0 (.not (.var 38))) 15)
 (.ret [.var 21,.var 22,.var 23,.var 24,.var 25,.shuts (.set (.set (.set (.set (.set (.set (.set (.set (.set (.set (.set (.set (.set (.set (.set (.var 20) (.var 6) 1 (.var 26)) (.var 6) 2 (.var 27)) (.var 6) 3 (.var 28)) (.var 6) 4 (.var 29)) (.var 6) 5 (.var 30)) (.var 6) 6 (.var 31)) (.var 6) 7 (.var 32)) (.var 6) 8 (.var 33)) (.var 6) 9 (.var 34)) (.var 6) 10 (.var 35)) (.var 6) 11 (.var 36)) (.var 6) 12 (.var 37)) (.var 6) 13 (.var 38)) (.var 6) 14 (.var 39)) (.var 6) 0 (.not (.var 38))) 15,.int 0])))
 (.ite (.eq (.cell (.var 20) (.var 6) 1) (.int 6))
 (.need (.isO (.cell (.var 20) (.var 6) 15))
 (.need (.clean (.set (.var 20) (.var 6) 15 (.shut (.cell (.var 20) (.var 6) 15))) 15)
 (.loop 21 [.sl 8 [.int .i64],.int .i64] [.shut (.cell (.var 20) (.var 6) 15),.int 0]
 (.ite (.lt (.var 23) (.len (.shut (.cell (.var 20) (.var 6) 15))))
 (.need (.le (.int 0) (.var 23))
 (.need (.lt (.var 23) (.len (.var 22)))
 (.ite (.eq (.cell (.var 22) (.var 23) 0) (.cell (.var 20) (.var 6) 6))
 (.call 68 [.var 15,.var 16,.var 17,.var 18,.var 19,.cell (.var 22) (.var 23) 0] 24
 (.need (.fit (.add (.var 23) (.int 1)))
 (.need (.isL (.shut (.cell (.var 20) (.var 6) 15)))
 (.need (.le (.var 23) (.len (.shut (.cell (.var 20) (.var 6) 15))))
 (.need (.le (.int 0) (.add (.var 23) (.int 1)))
 (.need (.le (.add (.var 23) (.int 1)) (.len (.shut (.cell (.var 20) (.var 6) 15))))
 (.need (.le (.len (.take (.var 23) (.shut (.cell (.var 20) (.var 6) 15)))) (.int 17592186044416))
 (.need (.le (.add (.len (.take (.var 23) (.shut (.cell (.var 20) (.var 6) 15)))) (.len (.drop (.add (.var 23) (.int 1)) (.shut (.cell (.var 20) (.var 6) 15))))) (.int 17592186044416))
 (.need (.clean (.set (.set (.set (.set (.set (.set (.set (.set (.set (.set (.set (.set (.set (.set (.set (.set (.var 20) (.var 6) 15 (.own (.app (.app .nil (.take (.var 23) (.shut (.cell (.var 20) (.var 6) 15)))) (.drop (.add (.var 23) (.int 1)) (.shut (.cell (.var 20) (.var 6) 15)))))) (.var 6) 1 (.cell (.var 20) (.var 6) 1)) (.var 6) 2 (.cell (.var 20) (.var 6) 2)) (.var 6) 3 (.cell (.var 20) (.var 6) 3)) (.var 6) 4 (.cell (.var 20) (.var 6) 4)) (.var 6) 5 (.cell (.var 20) (.var 6) 5)) (.var 6) 6 (.cell (.var 20) (.var 6) 6)) (.var 6) 7 (.cell (.var 20) (.var 6) 7)) (.var 6) 8 (.cell (.var 20) (.var 6) 8)) (.var 6) 9 (.cell (.var 20) (.var 6) 9)) (.var 6) 10 (.cell (.var 20) (.var 6) 10)) (.var 6) 11 (.cell (.var 20) (.var 6) 11)) (.var 6) 12 (.cell (.var 20) (.var 6) 12)) (.var 6) 13 (.bool true)) (.var 6) 14 (.int 0)) (.var 6) 0 (.bool false)) 15)
 (.ret [.var 24,.var 25,.var 26,.var 27,.var 28,.shuts (.set (.set (.set (.set (.set (.set (.set (.set (.set (.set (.set (.set (.set (.set (.set (.set (.var 20) (.var 6) 15 (.own (.app (.app .nil (.take (.var 23) (.shut (.cell (.var 20) (.var 6) 15)))) (.drop (.add (.var 23) (.int 1)) (.shut (.cell (.var 20) (.var 6) 15)))))) (.var 6) 1 (.cell (.var 20) (.var 6) 1)) (.var 6) 2 (.cell (.var 20) (.var 6) 2)) (.var 6) 3 (.cell (.var 20) (.var 6) 3)) (.var 6) 4 (.cell (.var 20) (.var 6) 4)) (.var 6) 5 (.cell (.var 20) (.var 6) 5)) (.var 6) 6 (.cell (.var 20) (.var 6) 6)) (.var 6) 7 (.cell (.var 20) (.var 6) 7)) (.var 6) 8 (.cell (.var 20) (.var 6) 8)) (.var 6) 9 (.cell (.var 20) (.var 6) 9)) (.var 6) 10 (.cell (.var 20) (.var 6) 10)) (.var 6) 11 (.cell (.var 20) (.var 6) 11)) (.var 6) 12 (.cell (.var 20) (.var 6) 12)) (.var 6) 13 (.bool true)) (.var 6) 14 (.int 0)) (.var 6) 0 (.bool false)) 15,.int 0]))))))))))
 (.need (.fit (.add (.var 23) (.int 1)))
 (.back 21 [.var 22,.add (.var 23) (.int 1)])))))
 (.need (.clean (.set (.set (.set (.set (.set (.set (.set (.set (.set (.set (.set (.set (.set (.set (.set (.set (.var 20) (.var 6) 15 (.shut (.cell (.var 20) (.var 6) 15))) (.var 6) 1 (.cell (.var 20) (.var 6) 1)) (.var 6) 2 (.cell (.var 20) (.var 6) 2)) (.var 6) 3 (.cell (.var 20) (.var 6) 3)) (.var 6) 4 (.cell (.var 20) (.var 6) 4)) (.var 6) 5 (.cell (.var 20) (.var 6) 5)) (.var 6) 6 (.cell (.var 20) (.var 6) 6)) (.var 6) 7 (.cell (.var 20) (.var 6) 7)) (.var 6) 8 (.cell (.var 20) (.var 6) 8)) (.var 6) 9 (.cell (.var 20) (.var 6) 9)) (.var 6) 10 (.cell (.var 20) (.var 6) 10)) (.var 6) 11 (.cell (.var 20) (.var 6) 11)) (.var 6) 12 (.cell (.var 20) (.var 6) 12)) (.var 6) 13 (.bool true)) (.var 6) 14 (.int 0)) (.var 6) 0 (.bool false)) 15)
 (.ret [.var 15,.var 16,.var 17,.var 18,.var 19,.shuts (.set (.set (.set (.set (.set (.set (.set (.set (.set (.set (.set (.set (.set (.set (.set (.set (.var 20) (.var 6) 15 (.shut (.cell (.var 20) (.var 6) 15))) (.var 6) 1 (.cell (.var 20) (.var 6) 1)) (.var 6) 2 (.cell (.var 20) (.var 6) 2)) (.var 6) 3 (.cell (.var 20) (.var 6) 3)) (.var 6) 4 (.cell (.var 20) (.var 6) 4)) (.var 6) 5 (.cell (.var 20) (.var 6) 5)) (.var 6) 6 (.cell (.var 20) (.var 6) 6)) (.var 6) 7 (.cell (.var 20) (.var 6) 7)) (.var 6) 8 (.cell (.var 20) (.var 6) 8)) (.var 6) 9 (.cell (.var 20) (.var 6) 9)) (.var 6) 10 (.cell (.var 20) (.var 6) 10)) (.var 6) 11 (.cell (.var 20) (.var 6) 11)) (.var 6) 12 (.cell (.var 20) (.var 6) 12)) (.var 6) 13 (.bool true)) (.var 6) 14 (.int 0)) (.var 6) 0 (.bool false)) 15,.int 0]))))))
 (.call 111 [.var 15,.var 16,.var 17,.var 18,.var 19,.cell (.var 20) (.var 6) 1,.cell (.var 20) (.var 6) 2,.cell (.var 20) (.var 6) 3,.cell (.var 20) (.var 6) 4,.cell (.var 20) (.var 6) 5,.cell (.var 20) (.var 6) 6,.cell (.var 20) (.var 6) 7,.cell (.var 20) (.var 6) 8,.cell (.var 20) (.var 6) 9,.cell (.var 20) (.var 6) 10,.cell (.var 20) (.var 6) 11,.cell (.var 20) (.var 6) 12,.cell (.var 20) (.var 6) 13,.cell (.var 20) (.var 6) 14,.var 6] 21
 (.need (.clean (.set (.set (.set (.set (.set (.set (.set (.set (.set (.set (.set (.set (.set (.set (.set (.var 20) (.var 6) 1 (.var 26)) (.var 6) 2 (.var 27)) (.var 6) 3 (.var 28)) (.var 6) 4 (.var 29)) (.var 6) 5 (.var 30)) (.var 6) 6 (.var 31)) (.var 6) 7 (.var 32)) (.var 6) 8 (.var 33)) (.var 6) 9 (.var 34)) (.var 6) 10 (.var 35)) (.var 6) 11 (.var 36)) (.var 6) 12 (.var 37)) (.var 6) 13 (.var 38)) (.var 6) 14 (.var 39)) (.var 6) 0 (.not (.var 38))) 15)
 (.ret [.var 21,.var 22,.var 23,.var 24,.var 25,.shuts (.set (.set (.set (.set (.set (.set (.set (.set (.set (.set (.set (.set (.set (.set (.set (.var 20) (.var 6) 1 (.var 26)) (.var 6) 2 (.var 27)) (.var 6) 3 (.var 28)) (.var 6) 4 (.var 29)) (.var 6) 5 (.var 30)) (.var 6) 6 (.var 31)) (.var 6) 7 (.var 32)) (.var 6) 8 (.var 33)) (.var 6) 9 (.var 34)) (.var 6) 10 (.var 35)) (.var 6) 11 (.var 36)) (.var 6) 12 (.var 37)) (.var 6) 13 (.var 38)) (.var 6) 14 (.var 39)) (.var 6) 0 (.not (.var 38))) 15,.int 0])))))))))))))))
theorem run158 : run z158 6000 [.code (Try.f158.body.getD .skip),.fin (bt z158 Try.f158.results.toList 50)] { fn:=158,tmps:=z158.sig.aM ++ List.replicate (Try.f158.ntmps - z158.sig.aM.length) (.v (.one .undef)),stk:=[],h:=z158.sig.h0,nx:=z158.sig.ins.length,known:=[]}=t158:=by kernel_rfl
set_option maxHeartbeats 8000000 in
theorem ok158 : cB Try.prog 158 d158.ct:=by
 refine aD (d:=d158) (Z:=z158) (Γ:=gam l158) (fn:=Try.f158) (c:=Try.f158.body.getD .skip) (bg tok mixed (all_cons ok156 (all_cons ok45 (all_cons ok98 (all_cons ok102 (all_cons ok108 (all_cons ok105 (all_cons ok68 (all_cons ok111 all_nil)))))))) (dX (c:=Try.f203.body.getD .skip) Try.func203 (by kernel_rfl) (by kernel_rfl) (dX (c:=Try.f184.body.getD .skip) Try.func184 (by kernel_rfl) (by kernel_rfl) bh))) Try.func158 (by kernel_rfl) (by kernel_rfl) rfl run158 fun E hk hp=>?_
 obtain ⟨hk0,hk1,hk2,hk3,hk4,hk5,hk6,hk7,hk8,hk9,hk10,hk11,hk12,hk13,hk14,_⟩:=hk
 obtain ⟨m,e0,e1,e2,e3,e4,b0,b1,b2,b3⟩:=cv (d0:=E 0) (d1:=E 1) (d2:=E 2) (d3:=E 3) (d4:=E 4) hk0 hk1 hk2 hk3 hk4
 obtain ⟨ts,e5,hts,b5⟩:=hU (d:=E 5) hk5
 have b5 : ts.length * 160≤140737488355328:=b5
 obtain ⟨x,e6,e7,e8,e9,e10,e11,e12,e13,e14⟩:=vL (d0:=E 6) (d1:=E 7) (d2:=E 8) (d3:=E 9) (d4:=E 10) (d5:=E 11) (d6:=E 12) (d7:=E 13) (d8:=E 14) hk6 hk7 hk8 hk9 hk10 hk11 hk12 hk13 hk14
 have el : aH E d158.sig.ins.length=[au m.slots,af m.heads,af m.free,af m.locks,.i m.now,G2 ts,.i x.task,.b x.step,.b x.tick,.i x.c.kind,.i x.c.k.a,.i x.c.k.b,.i x.c.time,.i x.c.bucket,.i x.c.slot]:=by
  show [E 0,E 1,E 2,E 3,E 4,E 5,E 6,E 7,E 8,E 9,E 10,E 11,E 12,E 13,E 14]=_
  rw [e0,e1,e2,e3,e4,e5,e6,e7,e8,e9,e10,e11,e12,e13,e14]
 rw [el] at hp
 rw [el]
 rw [Env.bJ el]
 clear el e0 e1 e2 e3 e4 e5 e6 e7 e8 e9 e10 e11 e12 e13 e14
 have hown : ∀ t∈ts,t.own=false:=fun t ht=>(hts t ht).1
 simp only [d158,kr _ _ _ _ _ hown,List.drop_succ_cons,List.drop_zero,oe,aA,cz] at hp ⊢
 obtain ⟨xt,xs,xk,c⟩:=x
 have hw:=hp
 unfold Iv
 unfold t158
 obtain ⟨us,hu⟩ : ∃ us,Wrd.bm ⟨m,ts⟩=⟨m,us⟩:=⟨_,rfl⟩
 rw [hu] at hw ⊢
 refine ai d156 [au m.slots,af m.heads,af m.free,af m.locks,.i m.now,az us] rfl trivial (by simp only [nrm,xdn,reduceIte,Nat.reduceLT,Nat.reduceSub,Nat.reduceAdd,d156,Ba,hu];rfl) ?_
 obtain ⟨q0,hq⟩ : ∃ q,bN ⟨m,us⟩ ⟨xt,xs,xk,c⟩=q:=⟨_,rfl⟩
 rw [hq]
 unfold bN at hq
 refine G0 (fun h=>?_) (fun h=>?_)
 ·simp only [nrm,xdn,reduceIte,Nat.reduceLT,Nat.reduceSub,Nat.reduceAdd] at h
  rw [if_pos h] at hq
  refine G0 (fun h1=>aj ?_) (fun h1=>?_)
  ·simp only [nrm,xdn,reduceIte,Nat.reduceLT,Nat.reduceSub,Nat.reduceAdd] at h1
   rw [if_pos h1] at hq
   subst hq
   simp only [nrm,xdn,reduceIte,Nat.reduceLT,Nat.reduceSub,Nat.reduceAdd]
   rfl
  ·simp only [nrm,xdn,reduceIte,Nat.reduceLT,Nat.reduceSub,Nat.reduceAdd] at h1
   rw [if_neg h1] at hq
   have hn : m.now≤1000000:=hw.m.Ik
   have hn0 : 0≤m.now:=hw.m.ma
   subst hq
   refine G1 (by simp only [nrm,xdn,reduceIte,Nat.reduceLT,Nat.reduceSub,Nat.reduceAdd];omega) (ag (by simp only [nrm,xdn,reduceIte,Nat.reduceLT,Nat.reduceSub,Nat.reduceAdd];exact aI us) (aj ?_))
   simp only [nrm,xdn,reduceIte,Nat.reduceLT,Nat.reduceSub,Nat.reduceAdd,cg]
   rfl
 simp only [nrm,xdn,reduceIte,Nat.reduceLT,Nat.reduceSub,Nat.reduceAdd] at h
 rw [if_neg (by rw [h];exact Bool.false_ne_true)] at hq
 refine G0 (fun h1=>aj ?_) (fun h1=>G0 (fun h2=>aj ?_) (fun h2=>?_))
 ·simp only [nrm,xdn,reduceIte,Nat.reduceLT,Nat.reduceSub,Nat.reduceAdd] at h1
  rw [if_pos (.inl h1)] at hq
  subst hq
  simp only [nrm,xdn,reduceIte,Nat.reduceLT,Nat.reduceSub,Nat.reduceAdd]
  rfl
 ·simp only [nrm,xdn,reduceIte,Nat.reduceLT,Nat.reduceSub,Nat.reduceAdd,eK] at h2
  rw [if_pos (.inr h2)] at hq
  subst hq
  simp only [nrm,xdn,reduceIte,Nat.reduceLT,Nat.reduceSub,Nat.reduceAdd]
  rfl
 simp only [nrm,xdn,reduceIte,Nat.reduceLT,Nat.reduceSub,Nat.reduceAdd,eK] at h1 h2
 rw [if_neg (fun y=>y.elim h1 h2)] at hq
 obtain ⟨k,rfl⟩ : ∃ k : Nat,xt=k:=⟨xt.toNat,by omega⟩
 have hk : k < us.length:=by omega
 obtain ⟨t,ht⟩ : ∃ t,us.getD k default=t:=⟨_,rfl⟩
 have hin : t∈us:=ht ▸ fc hk
 have hto : t.own=true:=(hw.t _ hin).1
 have hfit : t.held.length≤10000:=(hw.t _ hin).2.1
 have hf:=(hw.t _ hin).2.2
 have hm : aZ m:=hw.m
 have htt : tsk ⟨m,us⟩ k=t:=by unfold tsk;rw [Int.toNat_natCast];exact ht
 have e0 : ((az us).rows.getD k []).getD 0 .u=.b t.busy:=by rw [cO 0 hk,ht];rfl
 have e1 : ((az us).rows.getD k []).getD 1 .u=.i t.f.c.kind:=by rw [cO 1 hk,ht];rfl
 have e2 : ((az us).rows.getD k []).getD 2 .u=.i t.f.c.k.a:=by rw [cO 2 hk,ht];rfl
 have e3 : ((az us).rows.getD k []).getD 3 .u=.i t.f.c.k.b:=by rw [cO 3 hk,ht];rfl
 have e4 : ((az us).rows.getD k []).getD 4 .u=.i t.f.c.time:=by rw [cO 4 hk,ht];rfl
 have e5 : ((az us).rows.getD k []).getD 5 .u=.i t.f.c.bucket:=by rw [cO 5 hk,ht];rfl
 have e6 : ((az us).rows.getD k []).getD 6 .u=.i t.f.c.slot:=by rw [cO 6 hk,ht];rfl
 have e7 : ((az us).rows.getD k []).getD 7 .u=.i t.f.pc:=by rw [cO 7 hk,ht];rfl
 have e8 : ((az us).rows.getD k []).getD 8 .u=.i t.f.cur:=by rw [cO 8 hk,ht];rfl
 have e9 : ((az us).rows.getD k []).getD 9 .u=.i t.f.prev:=by rw [cO 9 hk,ht];rfl
 have e10 : ((az us).rows.getD k []).getD 10 .u=.i t.f.slot:=by rw [cO 10 hk,ht];rfl
 have e11 : ((az us).rows.getD k []).getD 11 .u=.i t.f.n:=by rw [cO 11 hk,ht];rfl
 have e12 : ((az us).rows.getD k []).getD 12 .u=bS t.f.keys:=by rw [cO 12 hk,ht];rfl
 have e13 : ((az us).rows.getD k []).getD 13 .u=.b t.f.done:=by rw [cO 13 hk,ht];rfl
 have e14 : ((az us).rows.getD k []).getD 14 .u=.i t.f.e:=by rw [cO 14 hk,ht];rfl
 have e15 : ((az us).rows.getD k []).getD 15 .u=o8 t.held:=by rw [cO 15 hk,ht,gZ hto];rfl
 have eo : (o8 t.held).isO=true:=rfl
 have es : (o8 t.held).shut=af t.held:=rfl
 have eL : (af t.held).isL=true:=rfl
 refine ag (by simp only [nrm,xdn,reduceIte,Nat.reduceLT,Nat.reduceSub,Nat.reduceAdd];omega) (ag (by simp only [nrm,xdn,reduceIte,Nat.reduceLT,Nat.reduceSub,Nat.reduceAdd,eK];omega) (G0 (fun h3=>?_) (fun h3=>?_)))
 ·simp only [nrm,xdn,reduceIte,Nat.reduceLT,Nat.reduceSub,Nat.reduceAdd,Bool.not_eq_true'] at h3
  rw [if_neg (by rw [h3];exact Bool.false_ne_true)] at hq
  unfold eR at hq
  rw [htt] at hq
  have hA : CD.l ((az us).rows.modify k fun r=>((((((((((((((((r.set 15 (.o (af t.held).rows)).set 0 (.b true)).set 1 (.i c.kind)).set 2 (.i c.k.a)).set 3 (.i c.k.b)).set 4 (.i c.time)).set 5 (.i c.bucket)).set 6 (.i c.slot)).set 7 (.i 0)).set 8 (.i 0)).set 9 (.i 0)).set 10 (.i (-1))).set 11 (.i 0)).set 12 (.l [])).set 13 (.b false)).set 14 (.i 0)))=az (us.modify k fun t=>{ t with busy:=true,f:=aX c}):=put_A ht hto true (aX c)
  have hF : CD.l ((az us).rows.modify k fun r=>(((((((((((((((r.set 0 (.b true)).set 1 (.i c.kind)).set 2 (.i c.k.a)).set 3 (.i c.k.b)).set 4 (.i c.time)).set 5 (.i c.bucket)).set 6 (.i c.slot)).set 7 (.i 0)).set 8 (.i 0)).set 9 (.i 0)).set 10 (.i (-1))).set 11 (.i 0)).set 12 (.l [])).set 13 (.b false)).set 14 (.i 0)))=az (us.modify k fun t=>{ t with busy:=true,f:=aX c}):=put_F ht hto true (aX c)
  refine ai d45 [.i (bf m c)] rfl trivial (by simp only [nrm,xdn,reduceIte,Nat.reduceLT,Nat.reduceSub,Nat.reduceAdd,d45,mem_of,aA,fG,cz,List.drop_succ_cons,List.drop_zero]) (G0 (fun h4=>aj ?_) (fun h4=>?_))
  ·simp only [nrm,xdn,reduceIte,Nat.reduceLT,Nat.reduceSub,Nat.reduceAdd,Int.toNat_natCast,e0] at h4
   rw [if_pos h4] at hq
   subst hq
   simp only [nrm,xdn,reduceIte,Nat.reduceLT,Nat.reduceSub,Nat.reduceAdd]
   rfl
  simp only [nrm,xdn,reduceIte,Nat.reduceLT,Nat.reduceSub,Nat.reduceAdd,Int.toNat_natCast,e0] at h4
  rw [if_neg (by rw [h4];exact Bool.false_ne_true)] at hq
  refine G0 (fun h5=>aj ?_) (fun h5=>?_)
  ·simp only [nrm,xdn,reduceIte,Nat.reduceLT,Nat.reduceSub,Nat.reduceAdd] at h5
   have h5 : ¬ bf m c=0:=by simpa using h5
   rw [if_pos h5] at hq
   subst hq
   simp only [nrm,xdn,reduceIte,Nat.reduceLT,Nat.reduceSub,Nat.reduceAdd]
   rw [if_pos (show ((⟨m,us⟩ : Wrd),bf m c).2≠0 from h5)]
   rfl
  simp only [nrm,xdn,reduceIte,Nat.reduceLT,Nat.reduceSub,Nat.reduceAdd] at h5
  rw [if_neg (by simpa using h5)] at hq
  refine G0 (fun h6=>?_) (fun h6=>?_)
  ·simp only [nrm,xdn,reduceIte,Nat.reduceLT,Nat.reduceSub,Nat.reduceAdd] at h6
   refine ag (by simp only [nrm,xdn,reduceIte,Nat.reduceLT,Nat.reduceSub,Nat.reduceAdd,Int.toNat_natCast,e15,eo]) (G0 (fun h7=>aj ?_) (fun h7=>?_))
   ·simp only [nrm,xdn,reduceIte,Nat.reduceLT,Nat.reduceSub,Nat.reduceAdd,Int.toNat_natCast,e15,es,aw] at h7
    rw [if_pos ⟨by omega,h6⟩] at hq
    subst hq
    simp only [nrm,xdn,reduceIte,Nat.reduceLT,Nat.reduceSub,Nat.reduceAdd]
    rfl
   simp only [nrm,xdn,reduceIte,Nat.reduceLT,Nat.reduceSub,Nat.reduceAdd,Int.toNat_natCast,e15,es,aw] at h7
   rw [if_neg (fun y=>h7 (by omega)),if_neg (show ¬ (c.kind=6∧c.slot ∉ t.held) from fun y=>by have y:=y.1;rw [h6] at y;cases y)] at hq
   subst hq
   refine ag ?_ (aj ?_)
   ·simp only [nrm,xdn,reduceIte,Nat.reduceLT,Nat.reduceSub,Nat.reduceAdd,Int.toNat_natCast,e15,es,CD.ax,aC]
    exact cls hA
   ·simp only [nrm,xdn,reduceIte,Nat.reduceLT,Nat.reduceSub,Nat.reduceAdd,Int.toNat_natCast,e15,es,CD.ax,aC]
    rw [show ((az us).rows.modify k _)=(az _).rows from congrArg CD.rows hA,cg]
    rfl
  simp only [nrm,xdn,reduceIte,Nat.reduceLT,Nat.reduceSub,Nat.reduceAdd] at h6
  rw [if_neg (fun y=>h6 y.2)] at hq
  refine G0 (fun h7=>?_) (fun h7=>?_)
  ·simp only [nrm,xdn,reduceIte,Nat.reduceLT,Nat.reduceSub,Nat.reduceAdd] at h7
   refine ag (by simp only [nrm,xdn,reduceIte,Nat.reduceLT,Nat.reduceSub,Nat.reduceAdd,Int.toNat_natCast,e15,eo]) (ai d98 [.b (decide (c.slot∈t.held))] rfl trivial (by simp only [nrm,xdn,reduceIte,Nat.reduceLT,Nat.reduceSub,Nat.reduceAdd,Int.toNat_natCast,e15,es,d98,bY]) (G0 (fun h8=>aj ?_) (fun h8=>?_)))
   ·simp only [nrm,xdn,reduceIte,Nat.reduceLT,Nat.reduceSub,Nat.reduceAdd] at h8
    have h8 : c.slot ∉ t.held:=by simpa using h8
    rw [if_pos ⟨h7,h8⟩] at hq
    subst hq
    simp only [nrm,xdn,reduceIte,Nat.reduceLT,Nat.reduceSub,Nat.reduceAdd]
    rfl
   simp only [nrm,xdn,reduceIte,Nat.reduceLT,Nat.reduceSub,Nat.reduceAdd] at h8
   have h8 : c.slot∈t.held:=by simpa using h8
   rw [if_neg (fun y=>y.2 h8)] at hq
   subst hq
   refine ag ?_ (aj ?_)
   ·simp only [nrm,xdn,reduceIte,Nat.reduceLT,Nat.reduceSub,Nat.reduceAdd,Int.toNat_natCast,e15,es,CD.ax,aC]
    exact cls hA
   ·simp only [nrm,xdn,reduceIte,Nat.reduceLT,Nat.reduceSub,Nat.reduceAdd,Int.toNat_natCast,e15,es,CD.ax,aC]
    rw [show ((az us).rows.modify k _)=(az _).rows from congrArg CD.rows hA,cg]
    rfl
  simp only [nrm,xdn,reduceIte,Nat.reduceLT,Nat.reduceSub,Nat.reduceAdd] at h7
  rw [if_neg (fun y=>h7 y.1)] at hq
  subst hq
  refine ag ?_ (aj ?_)
  ·simp only [nrm,xdn,reduceIte,Nat.reduceLT,Nat.reduceSub,Nat.reduceAdd,Int.toNat_natCast,CD.ax,aC]
   exact cls hF
  ·simp only [nrm,xdn,reduceIte,Nat.reduceLT,Nat.reduceSub,Nat.reduceAdd,Int.toNat_natCast,CD.ax,aC]
   rw [show ((az us).rows.modify k _)=(az _).rows from congrArg CD.rows hF,cg]
   rfl
 simp only [nrm,xdn,reduceIte,Nat.reduceLT,Nat.reduceSub,Nat.reduceAdd,Bool.not_eq_false'] at h3
 rw [if_pos h3] at hq
 unfold cN at hq
 rw [htt] at hq
 refine G0 (fun h=>aj ?_) (fun h=>?_)
 ·simp only [nrm,xdn,reduceIte,Nat.reduceLT,Nat.reduceSub,Nat.reduceAdd,Int.toNat_natCast,e0,Bool.not_eq_true'] at h
  rw [if_pos h] at hq
  subst hq
  simp only [nrm,xdn,reduceIte,Nat.reduceLT,Nat.reduceSub,Nat.reduceAdd]
  rfl
 simp only [nrm,xdn,reduceIte,Nat.reduceLT,Nat.reduceSub,Nat.reduceAdd,Int.toNat_natCast,e0,Bool.not_eq_false'] at h
 rw [if_neg (by rw [h];exact fun x=>Bool.noConfusion x)] at hq
 have hf : bV m t.f:=hf h
 refine G0 (fun h1=>?_) (fun h1=>?_)
 ·simp only [nrm,xdn,reduceIte,Nat.reduceLT,Nat.reduceSub,Nat.reduceAdd,Int.toNat_natCast,e1] at h1
  rw [if_pos h1] at hq
  refine ai d102 ((ar m t.f).2.cds ++ (ar m t.f).1.cds) rfl (by simp only [nrm,xdn,reduceIte,Nat.reduceLT,Nat.reduceSub,Nat.reduceAdd,Int.toNat_natCast,e0,e1,e2,e3,e4,e5,e6,e7,e8,e9,e10,e11,e12,e13,e14,e15];exact pi102 hm hf h1) (by simp only [nrm,xdn,reduceIte,Nat.reduceLT,Nat.reduceSub,Nat.reduceAdd,Int.toNat_natCast,e0,e1,e2,e3,e4,e5,e6,e7,e8,e9,e10,e11,e12,e13,e14,e15,fn102]) ?_
  generalize ar m t.f=r at hq ⊢
  have hB:=Jo ht hto (!r.1.done) r.1
  refine G0 (fun h2=>?_) (fun h2=>?_)
  ·simp only [nrm,xdn,reduceIte,Nat.reduceLT,Nat.reduceSub,Nat.reduceAdd,Frm.cds,Mem.cds,lca] at h2
   refine G0 (fun h3=>?_) (fun h3=>?_)
   ·simp only [nrm,xdn,reduceIte,Nat.reduceLT,Nat.reduceSub,Nat.reduceAdd,Frm.cds,Mem.cds,lca] at h3
    rw [if_pos ⟨h2,h3⟩] at hq
    have hC:=put_C ht hto (!r.1.done) r.1 (t.held ++ [r.1.slot])
    subst hq
    have ha : (af t.held).rows ++ [[.i r.1.slot]]=(af (t.held ++ [r.1.slot])).rows:=by simp [af]
    refine ag (by simp only [nrm,xdn,reduceIte,Nat.reduceLT,Nat.reduceSub,Nat.reduceAdd,Int.toNat_natCast,e0,e1,e2,e3,e4,e5,e6,e7,e8,e9,e10,e11,e12,e13,e14,e15,eo]) (ag (by simp only [nrm,xdn,reduceIte,Nat.reduceLT,Nat.reduceSub,Nat.reduceAdd,Int.toNat_natCast,e0,e1,e2,e3,e4,e5,e6,e7,e8,e9,e10,e11,e12,e13,e14,e15,e15,es,aw];omega) (ag ?_ (aj ?_)))
    ·simp only [nrm,xdn,reduceIte,Nat.reduceLT,Nat.reduceSub,Nat.reduceAdd,Int.toNat_natCast,e0,e1,e2,e3,e4,e5,e6,e7,e8,e9,e10,e11,e12,e13,e14,e15,es,CD.row,CD.ax,aC,Frm.cds,Mem.cds,lca,List.headD_cons,ha]
     exact cls hC
    ·simp only [nrm,xdn,reduceIte,Nat.reduceLT,Nat.reduceSub,Nat.reduceAdd,Int.toNat_natCast,e0,e1,e2,e3,e4,e5,e6,e7,e8,e9,e10,e11,e12,e13,e14,e15,es,CD.row,CD.ax,aC,Frm.cds,Mem.cds,lca,List.headD_cons,ha]
     rw [show ((az us).rows.modify k _)=(az _).rows from congrArg CD.rows hC,cg]
     rfl
   ·simp only [nrm,xdn,reduceIte,Nat.reduceLT,Nat.reduceSub,Nat.reduceAdd,Frm.cds,Mem.cds,lca] at h3
    rw [if_neg (fun x=>h3 x.2)] at hq
    subst hq
    refine ag ?_ (aj ?_)
    ·simp only [nrm,xdn,reduceIte,Nat.reduceLT,Nat.reduceSub,Nat.reduceAdd,Int.toNat_natCast,CD.ax,aC,Frm.cds,Mem.cds,lca]
     exact cls hB
    ·simp only [nrm,xdn,reduceIte,Nat.reduceLT,Nat.reduceSub,Nat.reduceAdd,Int.toNat_natCast,CD.ax,aC,Frm.cds,Mem.cds,lca]
     rw [show ((az us).rows.modify k _)=(az _).rows from congrArg CD.rows hB,cg]
     rfl
  ·simp only [nrm,xdn,reduceIte,Nat.reduceLT,Nat.reduceSub,Nat.reduceAdd,Frm.cds,Mem.cds,lca] at h2
   rw [if_neg (fun x=>by rw [h2] at x;exact Bool.noConfusion x.1)] at hq
   subst hq
   refine ag ?_ (aj ?_)
   ·simp only [nrm,xdn,reduceIte,Nat.reduceLT,Nat.reduceSub,Nat.reduceAdd,Int.toNat_natCast,CD.ax,aC,Frm.cds,Mem.cds,lca]
    exact cls hB
   ·simp only [nrm,xdn,reduceIte,Nat.reduceLT,Nat.reduceSub,Nat.reduceAdd,Int.toNat_natCast,CD.ax,aC,Frm.cds,Mem.cds,lca]
    rw [show ((az us).rows.modify k _)=(az _).rows from congrArg CD.rows hB,cg]
    rfl
 simp only [nrm,xdn,reduceIte,Nat.reduceLT,Nat.reduceSub,Nat.reduceAdd,Int.toNat_natCast,e1] at h1
 rw [if_neg h1] at hq
 refine G0 (fun h2=>?_) (fun h2=>?_)
 ·simp only [nrm,xdn,reduceIte,Nat.reduceLT,Nat.reduceSub,Nat.reduceAdd,Int.toNat_natCast,e1] at h2
  rw [if_pos h2] at hq
  refine ai d108 ((G3 m t.f k).2.cds ++ (G3 m t.f k).1.cds) rfl (by simp only [nrm,xdn,reduceIte,Nat.reduceLT,Nat.reduceSub,Nat.reduceAdd,Int.toNat_natCast,e0,e1,e2,e3,e4,e5,e6,e7,e8,e9,e10,e11,e12,e13,e14,e15];exact pi108 hm hf h2 k) (by simp only [nrm,xdn,reduceIte,Nat.reduceLT,Nat.reduceSub,Nat.reduceAdd,Int.toNat_natCast,e0,e1,e2,e3,e4,e5,e6,e7,e8,e9,e10,e11,e12,e13,e14,e15,fn108]) ?_
  generalize G3 m t.f k=r at hq ⊢
  have hB:=Jo ht hto (!r.1.done) r.1
  subst hq
  refine ag ?_ (aj ?_)
  ·simp only [nrm,xdn,reduceIte,Nat.reduceLT,Nat.reduceSub,Nat.reduceAdd,Int.toNat_natCast,CD.ax,aC,Frm.cds,Mem.cds,lca]
   exact cls hB
  ·simp only [nrm,xdn,reduceIte,Nat.reduceLT,Nat.reduceSub,Nat.reduceAdd,Int.toNat_natCast,CD.ax,aC,Frm.cds,Mem.cds,lca]
   rw [show ((az us).rows.modify k _)=(az _).rows from congrArg CD.rows hB,cg]
   rfl
 simp only [nrm,xdn,reduceIte,Nat.reduceLT,Nat.reduceSub,Nat.reduceAdd,Int.toNat_natCast,e1] at h2
 rw [if_neg h2] at hq
 refine G0 (fun h3=>?_) (fun h3=>?_)
 ·simp only [nrm,xdn,reduceIte,Nat.reduceLT,Nat.reduceSub,Nat.reduceAdd,Int.toNat_natCast,e1] at h3
  rw [if_pos h3] at hq
  refine ai d105 ((aL m t.f k).2.cds ++ (aL m t.f k).1.cds) rfl (by simp only [nrm,xdn,reduceIte,Nat.reduceLT,Nat.reduceSub,Nat.reduceAdd,Int.toNat_natCast,e0,e1,e2,e3,e4,e5,e6,e7,e8,e9,e10,e11,e12,e13,e14,e15];exact pi105 hm hf h3 k) (by simp only [nrm,xdn,reduceIte,Nat.reduceLT,Nat.reduceSub,Nat.reduceAdd,Int.toNat_natCast,e0,e1,e2,e3,e4,e5,e6,e7,e8,e9,e10,e11,e12,e13,e14,e15,fn105]) ?_
  generalize aL m t.f k=r at hq ⊢
  have hB:=Jo ht hto (!r.1.done) r.1
  subst hq
  refine ag ?_ (aj ?_)
  ·simp only [nrm,xdn,reduceIte,Nat.reduceLT,Nat.reduceSub,Nat.reduceAdd,Int.toNat_natCast,CD.ax,aC,Frm.cds,Mem.cds,lca]
   exact cls hB
  ·simp only [nrm,xdn,reduceIte,Nat.reduceLT,Nat.reduceSub,Nat.reduceAdd,Int.toNat_natCast,CD.ax,aC,Frm.cds,Mem.cds,lca]
   rw [show ((az us).rows.modify k _)=(az _).rows from congrArg CD.rows hB,cg]
   rfl
 simp only [nrm,xdn,reduceIte,Nat.reduceLT,Nat.reduceSub,Nat.reduceAdd,Int.toNat_natCast,e1] at h3
 rw [if_neg h3] at hq
 refine G0 (fun h4=>?_) (fun h4=>?_)
 rotate_left
 ·simp only [nrm,xdn,reduceIte,Nat.reduceLT,Nat.reduceSub,Nat.reduceAdd,Int.toNat_natCast,e1] at h4
  have h45 : t.f.c.kind=4∨t.f.c.kind=5:=by
   have:=hf.call
   unfold bf at this
   refine Classical.byContradiction fun hn=>?_
   rw [if_neg (by omega),if_neg h2,if_neg hn,if_neg h4] at this
   cases this
  rw [if_pos h45] at hq
  refine ai d111 ((aB m t.f k).2.cds ++ (aB m t.f k).1.cds) rfl (by simp only [nrm,xdn,reduceIte,Nat.reduceLT,Nat.reduceSub,Nat.reduceAdd,Int.toNat_natCast,e0,e1,e2,e3,e4,e5,e6,e7,e8,e9,e10,e11,e12,e13,e14,e15];exact pi111 hm hf h45 k) (by simp only [nrm,xdn,reduceIte,Nat.reduceLT,Nat.reduceSub,Nat.reduceAdd,Int.toNat_natCast,e0,e1,e2,e3,e4,e5,e6,e7,e8,e9,e10,e11,e12,e13,e14,e15,fn111]) ?_
  generalize aB m t.f k=r at hq ⊢
  have hB:=Jo ht hto (!r.1.done) r.1
  subst hq
  refine ag ?_ (aj ?_)
  ·simp only [nrm,xdn,reduceIte,Nat.reduceLT,Nat.reduceSub,Nat.reduceAdd,Int.toNat_natCast,CD.ax,aC,Frm.cds,Mem.cds,lca]
   exact cls hB
  ·simp only [nrm,xdn,reduceIte,Nat.reduceLT,Nat.reduceSub,Nat.reduceAdd,Int.toNat_natCast,CD.ax,aC,Frm.cds,Mem.cds,lca]
   rw [show ((az us).rows.modify k _)=(az _).rows from congrArg CD.rows hB,cg]
   rfl
 simp only [nrm,xdn,reduceIte,Nat.reduceLT,Nat.reduceSub,Nat.reduceAdd,Int.toNat_natCast,e1] at h4
 rw [if_neg (fun y=>by omega)] at hq
 have hs : 0≤t.f.c.slot∧t.f.c.slot < m.slots.length:=by
  have:=hf.call
  unfold bf at this
  rw [if_neg (by omega),if_neg (by omega),if_neg (by omega),if_pos h4] at this
  split at this
  ·cases this
  ·omega
 have hr:=hm.refs hs.1 hs.2
 have hnf:=hm.nf
 have hG:=put_G ht false (ay t.f 0)
 simp only [ay] at hG
 have hL : G2 (us.modify k fun u=>{ busy:=false,f:=⟨t.f.c,t.f.pc,t.f.cur,t.f.prev,t.f.slot,t.f.n,t.f.keys,true,0⟩,held:=u.held,own:=false})=G2 (us.modify k fun u=>{ u with busy:=false,f:=ay t.f 0}):=La k (fun u=>{ u with busy:=false,f:=ay t.f 0}) us
 have hH:=put_H ht
 refine ag (by simp only [nrm,xdn,reduceIte,Nat.reduceLT,Nat.reduceSub,Nat.reduceAdd,Int.toNat_natCast,e0,e1,e2,e3,e4,e5,e6,e7,e8,e9,e10,e11,e12,e13,e14,e15,eo]) (ag (by simp only [nrm,xdn,reduceIte,Nat.reduceLT,Nat.reduceSub,Nat.reduceAdd,Int.toNat_natCast,e0,e1,e2,e3,e4,e5,e6,e7,e8,e9,e10,e11,e12,e13,e14,e15,es];exact cls hH) ?_)
 refine bO (fun ds=>∃ i : Nat,ds=[af t.held,.i i]∧i≤t.held.length∧indexOf t.f.c.slot t.held 0=indexOf t.f.c.slot (t.held.drop i) i) (fun ds=>t.held.length - (ds.getD 1 .u).int.toNat) ⟨0,?_,by omega,rfl⟩ ?_
 ·simp only [nrm,xdn,reduceIte,Nat.reduceLT,Nat.reduceSub,Nat.reduceAdd,Int.toNat_natCast,e0,e1,e2,e3,e4,e5,e6,e7,e8,e9,e10,e11,e12,e13,e14,e15,es];rfl
 rintro ds - ⟨i,rfl,hi,he⟩
 refine G0 (fun hlt=>?_) (fun hge=>?_)
 ·simp only [nrm,xdn,reduceIte,Nat.reduceLT,Nat.reduceSub,Nat.reduceAdd,Int.toNat_natCast,e0,e1,e2,e3,e4,e5,e6,e7,e8,e9,e10,e11,e12,e13,e14,e15,es,aw] at hlt
  rw [wb (by omega)] at he
  have ec : ((af t.held).rows.getD i []).getD 0 .u=.i (t.held.getD i default):=iK (by omega)
  refine ag (by simp only [nrm,xdn,reduceIte,Nat.reduceLT,Nat.reduceSub,Nat.reduceAdd,Int.toNat_natCast,e0,e1,e2,e3,e4,e5,e6,e7,e8,e9,e10,e11,e12,e13,e14,e15];omega) (ag (by simp only [nrm,xdn,reduceIte,Nat.reduceLT,Nat.reduceSub,Nat.reduceAdd,Int.toNat_natCast,e0,e1,e2,e3,e4,e5,e6,e7,e8,e9,e10,e11,e12,e13,e14,e15,aw];omega) (G0 (fun h5=>?_) (fun h5=>?_)))
  ·simp only [nrm,xdn,reduceIte,Nat.reduceLT,Nat.reduceSub,Nat.reduceAdd,Int.toNat_natCast,e0,e1,e2,e3,e4,e5,e6,e7,e8,e9,e10,e11,e12,e13,e14,e15,ec] at h5
   rw [if_pos h5.symm] at he
   have hC:=put_D ht hto false (ay t.f 0) (t.held.take i ++ t.held.drop (i + 1))
   simp only [ay] at hC
   have ha : [] ++ (af t.held).rows.take i ++ (af t.held).rows.drop (i + 1)=(af (t.held.take i ++ t.held.drop (i + 1))).rows:=by simp only [af,CD.ax,List.map_append,List.map_take,List.map_drop,List.nil_append]
   have hp : (i + 1 : Int).toNat=i + 1:=by omega
   refine ai d68 (put m t.f.c.slot).cds rfl ?_ ?_ ?_
   ·simp only [nrm,xdn,reduceIte,Nat.reduceLT,Nat.reduceSub,Nat.reduceAdd,Int.toNat_natCast,e0,e1,e2,e3,e4,e5,e6,e7,e8,e9,e10,e11,e12,e13,e14,e15,ec,h5,d68,mem_of,aA];exact ⟨hs.1,hs.2,hr.1,hr.2,by omega⟩
   ·simp only [nrm,xdn,reduceIte,Nat.reduceLT,Nat.reduceSub,Nat.reduceAdd,Int.toNat_natCast,e0,e1,e2,e3,e4,e5,e6,e7,e8,e9,e10,e11,e12,e13,e14,e15,ec,h5,d68,mem_of,aA]
   rw [he,if_pos (by omega),hp,Int.toNat_natCast] at hq
   generalize put m t.f.c.slot=q at hq ⊢
   subst hq
   refine G1 (by simp only [nrm,xdn,reduceIte,Nat.reduceLT,Nat.reduceSub,Nat.reduceAdd,Int.toNat_natCast,e0,e1,e2,e3,e4,e5,e6,e7,e8,e9,e10,e11,e12,e13,e14,e15];omega) (ag (by simp only [nrm,xdn,reduceIte,Nat.reduceLT,Nat.reduceSub,Nat.reduceAdd,Int.toNat_natCast,e0,e1,e2,e3,e4,e5,e6,e7,e8,e9,e10,e11,e12,e13,e14,e15,es,eL]) (ag (by simp only [nrm,xdn,reduceIte,Nat.reduceLT,Nat.reduceSub,Nat.reduceAdd,Int.toNat_natCast,e0,e1,e2,e3,e4,e5,e6,e7,e8,e9,e10,e11,e12,e13,e14,e15,es,aw];omega) (ag (by simp only [nrm,xdn,reduceIte,Nat.reduceLT,Nat.reduceSub,Nat.reduceAdd,Int.toNat_natCast,e0,e1,e2,e3,e4,e5,e6,e7,e8,e9,e10,e11,e12,e13,e14,e15];omega) (ag (by simp only [nrm,xdn,reduceIte,Nat.reduceLT,Nat.reduceSub,Nat.reduceAdd,Int.toNat_natCast,e0,e1,e2,e3,e4,e5,e6,e7,e8,e9,e10,e11,e12,e13,e14,e15,es,aw];omega) (ag (by simp only [nrm,xdn,reduceIte,Nat.reduceLT,Nat.reduceSub,Nat.reduceAdd,Int.toNat_natCast,e0,e1,e2,e3,e4,e5,e6,e7,e8,e9,e10,e11,e12,e13,e14,e15,es,aw,List.length_take];omega) (ag (by simp only [nrm,xdn,reduceIte,Nat.reduceLT,Nat.reduceSub,Nat.reduceAdd,Int.toNat_natCast,e0,e1,e2,e3,e4,e5,e6,e7,e8,e9,e10,e11,e12,e13,e14,e15,es,aw,List.length_take,List.length_drop,hp];omega) (ag ?_ (aj ?_))))))))
   ·simp only [nrm,xdn,reduceIte,Nat.reduceLT,Nat.reduceSub,Nat.reduceAdd,Int.toNat_natCast,e0,e1,e2,e3,e4,e5,e6,e7,e8,e9,e10,e11,e12,e13,e14,e15,es,CD.ax,aC,hp,ha]
    exact cls hC
   ·simp only [nrm,xdn,reduceIte,Nat.reduceLT,Nat.reduceSub,Nat.reduceAdd,Int.toNat_natCast,e0,e1,e2,e3,e4,e5,e6,e7,e8,e9,e10,e11,e12,e13,e14,e15,es,CD.ax,aC,hp,ha]
    rw [show ((az us).rows.modify k _)=(az _).rows from congrArg CD.rows hC,cg]
    rfl
  ·simp only [nrm,xdn,reduceIte,Nat.reduceLT,Nat.reduceSub,Nat.reduceAdd,Int.toNat_natCast,e0,e1,e2,e3,e4,e5,e6,e7,e8,e9,e10,e11,e12,e13,e14,e15,ec] at h5
   rw [if_neg (fun y=>h5 y.symm)] at he
   refine G1 (by simp only [nrm,xdn,reduceIte,Nat.reduceLT,Nat.reduceSub,Nat.reduceAdd,Int.toNat_natCast,e0,e1,e2,e3,e4,e5,e6,e7,e8,e9,e10,e11,e12,e13,e14,e15];omega) (aV ⟨⟨i + 1,?_,by omega,he⟩,?_⟩)
   ·simp only [nrm,xdn,reduceIte,Nat.reduceLT,Nat.reduceSub,Nat.reduceAdd,Int.toNat_natCast,e0,e1,e2,e3,e4,e5,e6,e7,e8,e9,e10,e11,e12,e13,e14,e15];rfl
   ·simp only [nrm,xdn,reduceIte,Nat.reduceLT,Nat.reduceSub,Nat.reduceAdd,Int.toNat_natCast,e0,e1,e2,e3,e4,e5,e6,e7,e8,e9,e10,e11,e12,e13,e14,e15];omega
 ·simp only [nrm,xdn,reduceIte,Nat.reduceLT,Nat.reduceSub,Nat.reduceAdd,Int.toNat_natCast,e0,e1,e2,e3,e4,e5,e6,e7,e8,e9,e10,e11,e12,e13,e14,e15,es,aw] at hge
  rw [K3 (by omega)] at he
  rw [he,if_neg (by omega)] at hq
  subst hq
  refine ag ?_ (aj ?_)
  ·simp only [nrm,xdn,reduceIte,Nat.reduceLT,Nat.reduceSub,Nat.reduceAdd,Int.toNat_natCast,e0,e1,e2,e3,e4,e5,e6,e7,e8,e9,e10,e11,e12,e13,e14,e15,es,CD.ax,aC]
   exact cls hG
  ·simp only [nrm,xdn,reduceIte,Nat.reduceLT,Nat.reduceSub,Nat.reduceAdd,Int.toNat_natCast,e0,e1,e2,e3,e4,e5,e6,e7,e8,e9,e10,e11,e12,e13,e14,e15,es,CD.ax,aC]
   rw [show ((az us).rows.modify k _)=(az _).rows from congrArg CD.rows hG,cg,hL]
   rfl
end Go.Proofs.Ytpmamacjepcdmaa

namespace Go.Proofs.Ytpmamacjepcdmaa
open Go Go.Sy Go.RowKit
set_option linter.unusedSimpArgs false
set_option linter.unusedVariables false
set_option maxRecDepth 20000
instance : Inhabited Pst:=⟨⟨0,⟨0,⟨0,0⟩,0,0,0⟩,0,0,0,0,0,[]⟩⟩
def qL : List Pik:=[⟨0,false,false,⟨2,⟨3,0⟩,5,0,0⟩⟩,⟨1,false,false,⟨1,⟨3,0⟩,0,0,0⟩⟩,⟨1,true,false,⟨0,⟨0,0⟩,0,0,0⟩⟩,⟨0,true,false,⟨0,⟨0,0⟩,0,0,0⟩⟩,⟨0,true,false,⟨0,⟨0,0⟩,0,0,0⟩⟩,⟨0,true,false,⟨0,⟨0,0⟩,0,0,0⟩⟩,⟨0,true,false,⟨0,⟨0,0⟩,0,0,0⟩⟩,⟨0,true,false,⟨0,⟨0,0⟩,0,0,0⟩⟩,⟨0,true,false,⟨0,⟨0,0⟩,0,0,0⟩⟩,⟨1,true,false,⟨0,⟨0,0⟩,0,0,0⟩⟩,⟨1,true,false,⟨0,⟨0,0⟩,0,0,0⟩⟩,⟨0,false,true,⟨0,⟨0,0⟩,0,0,0⟩⟩]
def pN : Wrd × Int:=iw 2 1 2
def Wrd.G4 (w : Wrd) : Wrd:=⟨w.m,w.ts.map Tsk.G4⟩
def pR : qE × Int:=BK pN.1.G4 qL
def pF : List cI × Int:=qw pR.1.w.G4
theorem pN_ok : pN.2=0:=by decide +kernel
theorem pR_ok : pR.2=0∧pR.1.said=[0,0,0,0,0,0,0,0,0,0,8,0]∧pR.1.past.length=2∧(pR.1.past.getD 0 default).e=0∧(pR.1.past.getD 0 default).task=0∧(pR.1.past.getD 1 default).e=5∧(pR.1.past.getD 1 default).to=9∧pR.1.w.m.now=1:=by decide +kernel
theorem pF_ok : pF.2=0∧pF.1.length=1:=by decide +kernel
theorem fY (a : List bp) (b c d : List Int) (n : Int) (ts : List Tsk) (l : List CD) : Wrd.of (au a :: af b :: af c :: af d :: .i n :: G2 ts :: l)=Wrd.G4 ⟨⟨a,b,c,d,n⟩,ts⟩:=by
 rw [ju];exact fX a b c d n _ l
theorem AB {l : List Pst} {i : Nat} (o : Nat) (h : i < l.length) : ((gl l).rows.getD i []).getD o .u=(l.getD i default).row.getD o .u:=dh Pst.row l i o h
def s79 : Sig:=⟨[],[.one (.bool)]⟩
def d79 : DC:=⟨s79,fun _=>True,fun _=>[.b true]⟩
def l79 : List (Nat × Ct):=[(78,d78.ct),(80,d80.ct),(134,d134.ct)]
def z79 : Cx:={ T:=ttA,C:=sigs l79,F:=[],hints:=[⟨79,5,true,[],[],[],[],0,0,false⟩],sig:=s79}
def t79 : Tree :=
 (.call 78 [.int 2,.int 1,.int 2] 0
 (.need (.clean (.var 5) 15)
 (.call 80 [.var 0,.var 1,.var 2,.var 3,.var 4,.shuts (.var 5) 15,.app (.app (.app (.app (.app (.app (.app (.app (.cons (.int 0) (.cons (.bool false) (.cons (.bool false) (.cons (.int 2) (.cons (.int 3) (.cons (.int 0) (.cons (.int 5) (.cons (.int 0) (.cons (.int 0) .row0))))))))) (.app (.cons (.int 1) (.cons (.bool false) (.cons (.bool false) (.cons (.int 1) (.cons (.int 3) (.cons (.int 0) (.cons (.int 0) (.cons (.int 0) (.cons (.int 0) .row0))))))))) (.cons (.int 1) (.cons (.bool true) (.cons (.bool false) (.cons (.int 0) (.cons (.int 0) (.cons (.int 0) (.cons (.int 0) (.cons (.int 0) (.cons (.int 0) .row0))))))))))) (.cons (.int 0) (.cons (.bool true) (.cons (.bool false) (.cons (.int 0) (.cons (.int 0) (.cons (.int 0) (.cons (.int 0) (.cons (.int 0) (.cons (.int 0) .row0)))))))))) (.cons (.int 0) (.cons (.bool true) (.cons (.bool false) (.cons (.int 0) (.cons (.int 0) (.cons (.int 0) (.cons (.int 0) (.cons (.int 0) (.cons (.int 0) .row0)))))))))) (.cons (.int 0) (.cons (.bool true) (.cons (.bool false) (.cons (.int 0) (.cons (.int 0) (.cons (.int 0) (.cons (.int 0) (.cons (.int 0) (.cons (.int 0) .row0)))))))))) (.cons (.int 0) (.cons (.bool true) (.cons (.bool false) (.cons (.int 0) (.cons (.int 0) (.cons (.int 0) (.cons (.int 0) (.cons (.int 0) (.cons (.int 0) .row0)))))))))) (.cons (.int 0) (.cons (.bool true) (.cons (.bool false) (.cons (.int 0) (.cons (.int 0) (.cons (.int 0) (.cons (.int 0) (.cons (.int 0) (.cons (.int 0) .row0)))))))))) (.cons (.int 0) (.cons (.bool true) (.cons (.bool false) (.cons (.int 0) (.cons (.int 0) (.cons (.int 0) (.cons (.int 0) (.cons (.int 0) (.cons (.int 0) .row0)))))))))) (.app (.cons (.int 1) (.cons (.bool true) (.cons (.bool false) (.cons (.int 0) (.cons (.int 0) (.cons (.int 0) (.cons (.int 0) (.cons (.int 0) (.cons (.int 0) .row0))))))))) (.app (.cons (.int 1) (.cons (.bool true) (.cons (.bool false) (.cons (.int 0) (.cons (.int 0) (.cons (.int 0) (.cons (.int 0) (.cons (.int 0) (.cons (.int 0) .row0))))))))) (.cons (.int 0) (.cons (.bool false) (.cons (.bool true) (.cons (.int 0) (.cons (.int 0) (.cons (.int 0) (.cons (.int 0) (.cons (.int 0) (.cons (.int 0) .row0)))))))))))] 7
 (.call 134 [.var 7,.var 8,.var 9,.var 10,.var 11,.var 12] 16
 (.ite (.eq (.var 6) (.int 0))
 (.ite (.eq (.var 15) (.int 0))
 (.ite (.eq (.var 17) (.int 0))
 (.ite (.eq (.len (.var 13)) (.int 12))
 (.need (.lt (.int 10) (.len (.var 13)))
 (.ite (.eq (.cell (.var 13) (.int 10) 0) (.int 8))
 (.ite (.eq (.len (.var 14)) (.int 2))
 (.need (.lt (.int 0) (.len (.var 14)))
 (.ite (.eq (.cell (.var 14) (.int 0) 9) (.int 0))
 (.ite (.eq (.cell (.var 14) (.int 0) 0) (.int 0))
 (.need (.lt (.int 1) (.len (.var 14)))
 (.ite (.eq (.cell (.var 14) (.int 1) 9) (.int 5))
 (.ite (.eq (.cell (.var 14) (.int 1) 8) (.int 9))
 (.ite (.eq (.len (.var 16)) (.int 1))
 (.ret [.eq (.var 11) (.int 1)])
 (.ret [.bool false]))
 (.ret [.bool false]))
 (.ret [.bool false])))
 (.ret [.bool false]))
 (.ret [.bool false])))
 (.ret [.bool false]))
 (.ret [.bool false])))
 (.ret [.bool false]))
 (.ret [.bool false]))
 (.ret [.bool false]))
 (.ret [.bool false]))))))
theorem run79 : run z79 6000 [.code (Try.f79.body.getD .skip),.fin (bt z79 Try.f79.results.toList 50)] { fn:=79,tmps:=z79.sig.aM ++ List.replicate (Try.f79.ntmps - z79.sig.aM.length) (.v (.one .undef)),stk:=[],h:=z79.sig.h0,nx:=z79.sig.ins.length,known:=[]}=t79:=by kernel_rfl
theorem ok79 : cB Try.prog 79 d79.ct:=by
 refine aD (d:=d79) (Z:=z79) (Γ:=gam l79) (fn:=Try.f79) (c:=Try.f79.body.getD .skip) (bg tok mixed (all_cons ok78 (all_cons ok80 (all_cons ok134 all_nil))) bh) Try.func79 (by kernel_rfl) (by kernel_rfl) rfl run79 fun E hk hp=>?_
 clear hk
 have el : aH E d79.sig.ins.length=[]:=rfl
 rw [el] at hp
 rw [el]
 rw [Env.bJ el]
 clear el
 simp only [d79]
 unfold t79
 refine ai d78 (pN.1.cds ++ [.i pN.2]) rfl trivial (by simp only [nrm,xdn,reduceIte,Nat.reduceLT,Nat.reduceSub,Nat.reduceAdd,d78];rfl) ?_
 refine ag (by simp only [nrm,xdn,reduceIte,Nat.reduceLT,Nat.reduceSub,Nat.reduceAdd,Wrd.cds,Mem.cds,lca];exact aI _) (ai d80 (pR.1.w.tM ++ [af pR.1.said,gl pR.1.past,.i pR.2]) rfl trivial ?_ ?_)
 ·simp only [nrm,xdn,reduceIte,Nat.reduceLT,Nat.reduceSub,Nat.reduceAdd,Wrd.cds,Mem.cds,lca,cg,CD.row,List.headD_cons,CD.ax]
  show d80.fn [au pN.1.m.slots,af pN.1.m.heads,af pN.1.m.free,af pN.1.m.locks,.i pN.1.m.now,G2 pN.1.ts,eD qL]=_
  simp only [d80,fY,List.getD_cons_zero,List.getD_cons_succ,oZ]
  rfl
 obtain ⟨k1,k2,k3,k4,k5,k6,k7,k8⟩:=pR_ok
 obtain ⟨j1,j2⟩:=pF_ok
 refine ai d134 [eM pF.1,.i pF.2] rfl trivial ?_ ?_
 ·simp only [nrm,xdn,reduceIte,Nat.reduceLT,Nat.reduceSub,Nat.reduceAdd,Wrd.cds,Wrd.tM,Mem.cds,lca,d134,fY]
  rfl
 have n0:=pN_ok
 have q0 : ((gl pR.1.past).rows.getD 0 []).getD 9 .u=.i (pR.1.past.getD 0 default).e:=by rw [AB 9 (by omega)];rfl
 have q1 : ((gl pR.1.past).rows.getD 0 []).getD 0 .u=.i (pR.1.past.getD 0 default).task:=by rw [AB 0 (by omega)];rfl
 have q2 : ((gl pR.1.past).rows.getD 1 []).getD 9 .u=.i (pR.1.past.getD 1 default).e:=by rw [AB 9 (by omega)];rfl
 have q3 : ((gl pR.1.past).rows.getD 1 []).getD 8 .u=.i (pR.1.past.getD 1 default).to:=by rw [AB 8 (by omega)];rfl
 have sl : ((af pR.1.said).rows.getD 10 []).getD 0 .u=.i 8:=by rw [k2];rfl
 have sn : pR.1.said.length=12:=by rw [k2];rfl
 generalize pN=N at *
 generalize pR=R at *
 generalize pF=F at *
 have t1 : (1 : Int).toNat=1:=rfl
 have t10 : (10 : Int).toNat=10:=rfl
 repeat' first
  | refine Bf (by simp only [nrm,xdn,reduceIte,Nat.reduceLT,Nat.reduceSub,Nat.reduceAdd,Wrd.cds,Wrd.tM,Mem.cds,lca,aw,qm,iT,Int.toNat_zero,t1,t10,q0,q1,q2,q3,sl,sn,n0,k1,k3,k4,k5,k6,k7,k8,j1,j2] <;> rfl) ?_
  | refine ag (by simp only [nrm,xdn,reduceIte,Nat.reduceLT,Nat.reduceSub,Nat.reduceAdd,Wrd.cds,Wrd.tM,Mem.cds,lca,aw,qm,iT,sn,k3] <;> omega) ?_
 refine aj ?_
 simp only [nrm,xdn,reduceIte,Nat.reduceLT,Nat.reduceSub,Nat.reduceAdd,Wrd.cds,Wrd.tM,Mem.cds,lca,k8] <;> rfl
end Go.Proofs.Ytpmamacjepcdmaa
