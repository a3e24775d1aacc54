import Derived.Test.YtpmamacjepcdmaaCSweep
import Derived.Test.YtpmamacjepcdmaaCChainLaws
import Derived.Test.YtpmamacjepcdmaaCLook
import Derived.Test.YtpmamacjepcdmaaCRun
import Derived.Test.YtpmamacjepcdmaaCDrop2
namespace Go.Proofs.Ytpmamacjepcdmaa
open Go Go.Sy Go.RowKit
set_option linter.unusedSimpArgs false
set_option linter.unusedVariables false
set_option maxRecDepth 20000
def s111 : Sig:=⟨[.ptr [.own 52 kS,.own 3 kI,.own 3 kI,.own 3 kI,.int .i64],.agg [.int .i64,.int .i64,.int .i64,.int .i64,.int .i64,.int .i64,.int .i64,.int .i64,.int .i64,.int .i64,.int .i64,.fz kK,.bool,.int .i64],.one (.int .i64)],[.agg [.int .i64,.int .i64,.int .i64,.int .i64,.int .i64,.int .i64,.int .i64,.int .i64,.int .i64,.int .i64,.int .i64,.fz kK,.bool,.int .i64]]⟩
def d111 : DC:=⟨s111,fun l=>aO (Mem.of l)∧bL (Mem.of l) (Frm.of (l.drop 5))∧((Frm.of (l.drop 5)).c.kind=4∨(Frm.of (l.drop 5)).c.kind=5),fun l=>(bB (Mem.of l) (Frm.of (l.drop 5)) (l.getD 19 .u).int).2.cds ++ (bB (Mem.of l) (Frm.of (l.drop 5)) (l.getD 19 .u).int).1.cds⟩
theorem fn111 (m : Mem) (f : Frm) (x : Int) : d111.fn [ai m.slots,aa m.heads,aa m.free,aa m.locks,.i m.now,.i f.c.kind,.i f.c.k.a,.i f.c.k.b,.i f.c.time,.i f.c.bucket,.i f.c.slot,.i f.pc,.i f.cur,.i f.prev,.i f.slot,.i f.n,ba f.keys,.b f.done,.i f.e,.i x]=(bB m f x).2.cds ++ (bB m f x).1.cds:=by
 simp only [d111,mem_of,aq,List.drop_succ_cons,List.drop_zero,bQ,List.getD_cons_zero,List.getD_cons_succ,CD.aL]
theorem pi111 {m : Mem} {f : Frm} (hm : aO m) (hf : bL m f) (hk : f.c.kind=4∨f.c.kind=5) (x : Int) : d111.pre [ai m.slots,aa m.heads,aa m.free,aa m.locks,.i m.now,.i f.c.kind,.i f.c.k.a,.i f.c.k.b,.i f.c.time,.i f.c.bucket,.i f.c.slot,.i f.pc,.i f.cur,.i f.prev,.i f.slot,.i f.n,ba f.keys,.b f.done,.i f.e,.i x]:=by
 simp only [d111,mem_of,aq,List.drop_succ_cons,List.drop_zero,bQ]
 exact ⟨hm,hf,hk⟩
def l111 : List (Nat × Ct):=[(49,d49.ct),(189,d189.ct),(89,d89.ct),(68,d68.ct),(190,d190.ct)]
noncomputable def z111 : Cx:={ T:=ttA,C:=sigs l111,F:=[(194,Try.f194),(183,Try.f183),(184,Try.f184)],hints:=[],sig:=s111}
def t111 : Tree :=
 (.call 49 [.var 0,.var 1,.var 2,.var 3,.var 4,.var 5,.var 6,.var 7,.var 8,.var 9,.var 10] 20
 (.ite (.eq (.var 11) (.int 0))
 (.call 189 [.var 0,.var 1,.var 2,.var 3,.var 4,.var 20,.var 19] 21
 (.ite (.var 26)
 (.ret [.var 21,.var 22,.var 23,.var 24,.var 25,.var 5,.var 6,.var 7,.var 8,.var 9,.var 10,.int 1,.var 12,.var 13,.var 14,.var 15,.var 16,.var 17,.var 18])
 (.ret [.var 21,.var 22,.var 23,.var 24,.var 25,.var 5,.var 6,.var 7,.var 8,.var 9,.var 10,.var 11,.var 12,.var 13,.var 14,.var 15,.var 16,.var 17,.var 18])))
 (.ite (.eq (.var 11) (.int 1))
 (.need (.le (.int 0) (.var 20))
 (.need (.lt (.var 20) (.len (.var 1)))
 (.ret [.var 0,.var 1,.var 2,.var 3,.var 4,.var 5,.var 6,.var 7,.var 8,.var 9,.var 10,.int 2,.cell (.var 1) (.var 20) 0,.int 0,.var 14,.var 15,.var 16,.var 17,.var 18])))
 (.ite (.eq (.var 11) (.int 2))
 (.ite (.not (.lt (.int 0) (.var 12)))
 (.ret [.var 0,.var 1,.var 2,.var 3,.var 4,.var 5,.var 6,.var 7,.var 8,.var 9,.var 10,.int 6,.var 12,.var 13,.var 14,.var 15,.var 16,.var 17,.var 18])
 (.need (.fit (.sub (.var 12) (.int 1)))
 (.need (.le (.int 0) (.sub (.var 12) (.int 1)))
 (.need (.lt (.sub (.var 12) (.int 1)) (.len (.var 0)))
 (.ite (.eq (.var 5) (.int 5))
 (.ite (.lt (.len (.var 16)) (.int 100))
 (.need (.le (.len (.var 16)) (.int 8796093022208))
 (.need (.le (.add (.len (.var 16)) (.int 1)) (.int 8796093022208))
 (.ret [.var 0,.var 1,.var 2,.var 3,.var 4,.var 5,.var 6,.var 7,.var 8,.var 9,.var 10,.int 3,.var 12,.var 13,.var 14,.var 15,.app (.app .nil (.var 16)) (.cons (.cell (.var 0) (.sub (.var 12) (.int 1)) 1) (.cons (.cell (.var 0) (.sub (.var 12) (.int 1)) 2) .row0)),.var 17,.var 18])))
 (.ret [.var 0,.var 1,.var 2,.var 3,.var 4,.var 5,.var 6,.var 7,.var 8,.var 9,.var 10,.int 3,.var 12,.var 13,.var 14,.var 15,.var 16,.var 17,.var 18]))
 (.ite (.lt (.var 4) (.cell (.var 0) (.sub (.var 12) (.int 1)) 3))
 (.ret [.var 0,.var 1,.var 2,.var 3,.var 4,.var 5,.var 6,.var 7,.var 8,.var 9,.var 10,.int 3,.var 12,.var 13,.var 14,.var 15,.var 16,.var 17,.var 18])
 (.ret [.var 0,.var 1,.var 2,.var 3,.var 4,.var 5,.var 6,.var 7,.var 8,.var 9,.var 10,.int 4,.var 12,.var 13,.var 14,.var 15,.var 16,.var 17,.var 18])))))))
 (.ite (.eq (.var 11) (.int 3))
 (.ite (.lt (.int 0) (.var 12))
 (.need (.fit (.sub (.var 12) (.int 1)))
 (.need (.le (.int 0) (.sub (.var 12) (.int 1)))
 (.need (.lt (.sub (.var 12) (.int 1)) (.len (.var 0)))
 (.ret [.var 0,.var 1,.var 2,.var 3,.var 4,.var 5,.var 6,.var 7,.var 8,.var 9,.var 10,.int 2,.cell (.var 0) (.sub (.var 12) (.int 1)) 5,.var 12,.var 14,.var 15,.var 16,.var 17,.var 18]))))
 (.ret [.var 0,.var 1,.var 2,.var 3,.var 4,.var 5,.var 6,.var 7,.var 8,.var 9,.var 10,.int 6,.var 12,.var 13,.var 14,.var 15,.var 16,.var 17,.var 18]))
 (.ite (.eq (.var 11) (.int 4))
 (.ite (.lt (.int 0) (.var 12))
 (.need (.fit (.sub (.var 12) (.int 1)))
 (.need (.le (.int 0) (.sub (.var 12) (.int 1)))
 (.need (.lt (.sub (.var 12) (.int 1)) (.len (.var 0)))
 (.call 89 [.var 0,.var 1,.var 2,.var 3,.var 4,.var 13,.sub (.var 12) (.int 1),.var 20] 21
 (.ret [.var 21,.var 22,.var 23,.var 24,.var 25,.var 5,.var 6,.var 7,.var 8,.var 9,.var 10,.int 5,.cell (.var 0) (.sub (.var 12) (.int 1)) 5,.var 13,.sub (.var 12) (.int 1),.var 15,.var 16,.var 17,.var 18])))))
 (.ret [.var 0,.var 1,.var 2,.var 3,.var 4,.var 5,.var 6,.var 7,.var 8,.var 9,.var 10,.int 6,.var 12,.var 13,.var 14,.var 15,.var 16,.var 17,.var 18]))
 (.ite (.eq (.var 11) (.int 5))
 (.ite (.le (.int 0) (.var 14))
 (.call 68 [.var 0,.var 1,.var 2,.var 3,.var 4,.var 14] 21
 (.ite (.lt (.var 15) (.int 1000000))
 (.need (.fit (.add (.var 15) (.int 1)))
 (.ret [.var 21,.var 22,.var 23,.var 24,.var 25,.var 5,.var 6,.var 7,.var 8,.var 9,.var 10,.int 2,.var 12,.var 13,.int (-1),.add (.var 15) (.int 1),.var 16,.var 17,.var 18]))
 (.ret [.var 21,.var 22,.var 23,.var 24,.var 25,.var 5,.var 6,.var 7,.var 8,.var 9,.var 10,.int 2,.var 12,.var 13,.int (-1),.var 15,.var 16,.var 17,.var 18])))
 (.ret [.var 0,.var 1,.var 2,.var 3,.var 4,.var 5,.var 6,.var 7,.var 8,.var 9,.var 10,.int 6,.var 12,.var 13,.var 14,.var 15,.var 16,.var 17,.var 18]))
 (.ite (.eq (.var 11) (.int 6))
 (.call 190 [.var 0,.var 1,.var 2,.var 3,.var 4,.var 20,.var 19] 21
 (.ret [.var 21,.var 22,.var 23,.var 24,.var 25,.var 5,.var 6,.var 7,.var 8,.var 9,.var 10,.var 11,.var 12,.var 13,.var 14,.var 15,.var 16,.bool true,.int 0]))
 (.ret [.var 0,.var 1,.var 2,.var 3,.var 4,.var 5,.var 6,.var 7,.var 8,.var 9,.var 10,.int 6,.var 12,.var 13,.var 14,.var 15,.var 16,.var 17,.var 18])))))))))
theorem run111 : run z111 6000 [.code (Try.f111.body.getD .skip),.fin (aP z111 Try.f111.results.toList 50)] { fn:=111,tmps:=z111.sig.aE ++ List.replicate (Try.f111.ntmps - z111.sig.aE.length) (.v (.one .undef)),stk:=[],h:=z111.sig.h0,nx:=z111.sig.ins.length,known:=[]}=t111:=by kernel_rfl
set_option maxHeartbeats 16000000 in
theorem ok111 : bJ Try.prog 111 d111.ct:=by
 refine ax (d:=d111) (Z:=z111) (Γ:=gam l111) (fn:=Try.f111) (c:=Try.f111.body.getD .skip) (aJ tok mixed (all_cons ok49 (all_cons ok189 (all_cons ok89 (all_cons ok68 (all_cons ok190 all_nil))))) (cv (c:=Try.f194.body.getD .skip) Try.func194 (by kernel_rfl) (by kernel_rfl) (cv (c:=Try.f183.body.getD .skip) Try.func183 (by kernel_rfl) (by kernel_rfl) (cv (c:=Try.f184.body.getD .skip) Try.func184 (by kernel_rfl) (by kernel_rfl) aK)))) Try.func111 (by kernel_rfl) (by kernel_rfl) rfl run111 fun E hk hp=>?_
 obtain ⟨hk0,hk1,hk2,hk3,hk4,hk5,hk6,hk7,hk8,hk9,hk10,hk11,hk12,hk13,hk14,hk15,hk16,hk17,hk18,hk19,_⟩:=hk
 obtain ⟨m,e0,e1,e2,e3,e4,b0,b1,b2,b3⟩:=bp (d0:=E 0) (d1:=E 1) (d2:=E 2) (d3:=E 3) (d4:=E 4) hk0 hk1 hk2 hk3 hk4
 obtain ⟨f,e5,e6,e7,e8,e9,e10,e11,e12,e13,e14,e15,e16,e17,e18,b16⟩:=c9 (d0:=E 5) (d1:=E 6) (d2:=E 7) (d3:=E 8) (d4:=E 9) (d5:=E 10) (d6:=E 11) (d7:=E 12) (d8:=E 13) (d9:=E 14) (d10:=E 15) (d11:=E 16) (d12:=E 17) (d13:=E 18) hk5 hk6 hk7 hk8 hk9 hk10 hk11 hk12 hk13 hk14 hk15 hk16 hk17 hk18
 obtain ⟨x,e19⟩:=ok_int (d:=E 19) hk19
 have el : aG E d111.sig.ins.length=[ai m.slots,aa m.heads,aa m.free,aa m.locks,.i m.now,.i f.c.kind,.i f.c.k.a,.i f.c.k.b,.i f.c.time,.i f.c.bucket,.i f.c.slot,.i f.pc,.i f.cur,.i f.prev,.i f.slot,.i f.n,ba f.keys,.b f.done,.i f.e,.i x]:=by
  show [E 0,E 1,E 2,E 3,E 4,E 5,E 6,E 7,E 8,E 9,E 10,E 11,E 12,E 13,E 14,E 15,E 16,E 17,E 18,E 19]=_
  rw [e0,e1,e2,e3,e4,e5,e6,e7,e8,e9,e10,e11,e12,e13,e14,e15,e16,e17,e18,e19]
 rw [el] at hp
 rw [el]
 rw [Env.aU el]
 clear el e0 e1 e2 e3 e4 e5 e6 e7 e8 e9 e10 e11 e12 e13 e14 e15 e16 e17 e18 e19
 rw [fn111]
 simp only [d111,mem_of,aq,List.drop_succ_cons,List.drop_zero,bQ] at hp
 obtain ⟨hm,hf,hk⟩ : aO m∧bL m f∧(f.c.kind=4∨f.c.kind=5):=hp
 have hb:=bl hm hf.call (by omega)
 have gs:=hm.ns
 have g4:=hm.nh4
 have eH : ((aa m.heads).rows.getD (ay m f.c).toNat []).getD 0 .u=.i (cV m (ay m f.c)):=cL (by omega)
 obtain ⟨f1,f2,f3,f4,f5,f6,f7,f8,f9,f10,f11,f12,f13⟩:=id hf
 have eN : 0 < f.cur→((ai m.slots).rows.getD (f.cur - 1).toNat []).getD 5 .u=.i (at1 m f).next:=fun _=>fI (by omega)
 have eK1 : 0 < f.cur→((ai m.slots).rows.getD (f.cur - 1).toNat []).getD 1 .u=.i (at1 m f).k.a:=fun _=>gl (by omega)
 have eK2 : 0 < f.cur→((ai m.slots).rows.getD (f.cur - 1).toNat []).getD 2 .u=.i (at1 m f).k.b:=fun _=>gk (by omega)
 have a1 : m.slots.getD (f.cur - 1).toNat default=at1 m f:=rfl
 have a2 : m.slots.getD f.slot.toNat default=at2 m f:=rfl
 unfold t111
 repeat'
  show Tree.den _ _ _ _ _
  first
   | (with_reducible refine ae (b:=.var _) (fun hx=>?_) (fun hx=>?_)) <;> simp only [nrm,xdn,reduceIte,Nat.reduceLT,Nat.reduceSub,Nat.reduceAdd,bf,bd,aX,bc,aY,au,a1,a2,aN,Mem.cds,lca,Bool.not_eq_true',Bool.not_eq_false'] at hx
   | (with_reducible refine ae (fun h=>?_) (fun h=>?_)) <;> simp only [nrm,xdn,reduceIte,Nat.reduceLT,Nat.reduceSub,Nat.reduceAdd,bf,bd,aX,bc,aY,au,a1,a2,aN,Mem.cds,lca,Bool.not_eq_true',Bool.not_eq_false'] at h <;> try first | replace h:=nm h | replace h:=np h
   | (with_reducible refine cm ?_ ?_;· simp only [nrm,xdn,reduceIte,Nat.reduceLT,Nat.reduceSub,Nat.reduceAdd,aw,aj,aN,bf,bd,aX,bc,aY,au,a1,a2];omega)
   | (with_reducible refine ft ?_ ?_;· simp only [nrm,xdn,reduceIte,Nat.reduceLT,Nat.reduceSub,Nat.reduceAdd,aw,aj,aN,bf,bd,aX,bc,aY,au,a1,a2];omega)
   | (with_reducible refine aH ?_ ?_;· simp only [nrm,xdn,reduceIte,Nat.reduceLT,Nat.reduceSub,Nat.reduceAdd,aw,aj,aN,bf,bd,aX,bc,aY,au,a1,a2];omega)
   | with_reducible refine ag ?_
   | refine ah d49 [.i (ay m f.c)] rfl trivial (by simp only [nrm,xdn,reduceIte,Nat.reduceLT,Nat.reduceSub,Nat.reduceAdd,fn49]) ?_
   | refine ah d189 ((lock m (ay m f.c) x).1.cds ++ [.b (lock m (ay m f.c) x).2]) rfl (by simp only [nrm,xdn,reduceIte,Nat.reduceLT,Nat.reduceSub,Nat.reduceAdd];exact pi189 hm hb.1 hb.2) (by simp only [nrm,xdn,reduceIte,Nat.reduceLT,Nat.reduceSub,Nat.reduceAdd,fn189]) ?_
   | refine ah d89 (cut m f.prev (f.cur - 1) (ay m f.c)).cds rfl (by simp only [nrm,xdn,reduceIte,Nat.reduceLT,Nat.reduceSub,Nat.reduceAdd];exact pre89 (by omega) (by omega) (by omega) (by omega) hb.1 hb.2) (by simp only [nrm,xdn,reduceIte,Nat.reduceLT,Nat.reduceSub,Nat.reduceAdd,fn89]) ?_
   | refine ah d68 (put m f.slot).cds rfl (by simp only [nrm,xdn,reduceIte,Nat.reduceLT,Nat.reduceSub,Nat.reduceAdd];exact pi68 hm (by omega) (by omega)) (by simp only [nrm,xdn,reduceIte,Nat.reduceLT,Nat.reduceSub,Nat.reduceAdd,fn68]) ?_
   | refine ah d190 (unlock m (ay m f.c) x).cds rfl (by simp only [nrm,xdn,reduceIte,Nat.reduceLT,Nat.reduceSub,Nat.reduceAdd];exact pi190 hm hb.1 hb.2) (by simp only [nrm,xdn,reduceIte,Nat.reduceLT,Nat.reduceSub,Nat.reduceAdd,fn190]) ?_
 all_goals first | (exfalso;omega) | skip
 all_goals unfold bB
 all_goals repeat (first | rw [if_neg (by omega)] | rw [if_pos (by omega)] | rw [if_pos (by assumption)] | rw [if_neg (by assumption)] | rw [if_neg (ne_true_of_eq_false (by assumption))] | rw [if_pos (Or.inl (by assumption))] | rw [if_pos (Or.inr (by assumption))] | rw [if_neg (fun y=>Or.elim y (fun z=>z (by assumption)) (fun z=>Bool.false_ne_true (z.symm.trans (by assumption))))])
 all_goals try rw [gF hx]
 all_goals try rw [gD hx]
 all_goals try simp only [nrm,xdn,reduceIte,Nat.reduceLT,Nat.reduceSub,Nat.reduceAdd,Mem.cds,Frm.cds,aF,lca,CD.row,List.headD_cons,eH,bt,Bool.false_eq_true,Bool.true_eq_false]
 all_goals try simp only [nrm,xdn,reduceIte,Nat.reduceLT,Nat.reduceSub,Nat.reduceAdd,Mem.cds,Frm.cds,aF,lca,CD.row,List.headD_cons,eH,bt,Bool.false_eq_true,Bool.true_eq_false,hx]
 all_goals try simp only [nrm,xdn,reduceIte,Nat.reduceLT,Nat.reduceSub,Nat.reduceAdd,Mem.cds,Frm.cds,aF,lca,CD.row,List.headD_cons,eH,bt,Bool.false_eq_true,Bool.true_eq_false,hc]
 all_goals try simp only [nrm,xdn,reduceIte,Nat.reduceLT,Nat.reduceSub,Nat.reduceAdd,Mem.cds,Frm.cds,aF,lca,CD.row,List.headD_cons,eH,bt,Bool.false_eq_true,Bool.true_eq_false,ht]
 all_goals try simp only [nrm,xdn,reduceIte,Nat.reduceLT,Nat.reduceSub,Nat.reduceAdd,Mem.cds,Frm.cds,aF,lca,CD.row,List.headD_cons,eH,bt,Bool.false_eq_true,Bool.true_eq_false,eN (by omega),eK1 (by omega),eK2 (by omega)]
 all_goals first | (have e14 : f.slot=-1:=(by omega);simp only [e14];done) | (have e15 : f.n=1000000:=(by omega);simp only [e15];done)
end Go.Proofs.Ytpmamacjepcdmaa

namespace Go.Proofs.Ytpmamacjepcdmaa
open Go Go.Sy Go.RowKit
set_option linter.unusedSimpArgs false
set_option linter.unusedVariables false
def uJ (w : Wrd) (x : Pik) : Wrd × Int:=if (cJ w.bU x).2≠0 then (Wrd.none,(cJ w.bU x).2) else ((cJ w.bU x).1,0)
theorem put_F {ts : List Tsk} {k : Nat} {t : Tsk} (ht : ts.getD k default=t) (hto : t.own=true) (b : Bool) (f : Frm) : CD.l ((ar ts).rows.modify k fun r=>(((((((((((((((r.set 0 (.b b)).set 1 (.i f.c.kind)).set 2 (.i f.c.k.a)).set 3 (.i f.c.k.b)).set 4 (.i f.c.time)).set 5 (.i f.c.bucket)).set 6 (.i f.c.slot)).set 7 (.i f.pc)).set 8 (.i f.cur)).set 9 (.i f.prev)).set 10 (.i f.slot)).set 11 (.i f.n)).set 12 (ba f.keys)).set 13 (.b f.done)).set 14 (.i f.e)))=ar (ts.modify k fun t=>{ t with busy:=b,f:=f}) :=
 dE (by rw [ht,er hto];simp only [Tsk.fF,Tsk.hd,hto,if_true];rfl)
theorem put_G {ts : List Tsk} {k : Nat} {t : Tsk} (ht : ts.getD k default=t) (b : Bool) (f : Frm) : CD.l ((ar ts).rows.modify k fun r=>((((((((((((((((r.set 15 (aa t.held)).set 1 (.i f.c.kind)).set 2 (.i f.c.k.a)).set 3 (.i f.c.k.b)).set 4 (.i f.c.time)).set 5 (.i f.c.bucket)).set 6 (.i f.c.slot)).set 7 (.i f.pc)).set 8 (.i f.cur)).set 9 (.i f.prev)).set 10 (.i f.slot)).set 11 (.i f.n)).set 12 (ba f.keys)).set 13 (.b f.done)).set 14 (.i f.e)).set 0 (.b b)))=ar (ts.modify k fun t=>{ t with busy:=b,f:=f,own:=false}) :=
 dE (by rw [ht];rfl)
theorem put_H {ts : List Tsk} {k : Nat} {t : Tsk} (ht : ts.getD k default=t) : CD.l ((ar ts).rows.modify k fun r=>r.set 15 (aa t.held))=ar (ts.modify k fun t=>{ t with own:=false}) :=
 dE (by rw [ht];rfl)
theorem rJ (k : Nat) (f : Tsk→Tsk) (ts : List Tsk) : aA (ts.modify k fun t=>{ f t with own:=false})=aA (ts.modify k f):=by
 have : ∀ (ts : List Tsk) (k : Nat),(ts.modify k fun t=>{ f t with own:=false}).map Tsk.row=(ts.modify k f).map Tsk.row:=fun ts=>by
  induction ts with
  | nil=>intro k;simp
  | cons a l ih=>intro k;cases k with
   | zero=>simp;rfl
   | succ k=>simp [ih k]
 unfold aA
 rw [this]
theorem q6 {α : Type} [DecidableEq α] {x : α} {l : List α} {i : Nat} (h : l.length≤i) : indexOf x (l.drop i) i=-1:=by
 rw [List.drop_eq_nil_of_le h];rfl
def s158 : Sig:=⟨[.agg [.fz kS,.fz kI,.fz kI,.fz kI,.int .i64,.fz kT],.agg [.int .i64,.bool,.bool,.int .i64,.int .i64,.int .i64,.int .i64,.int .i64,.int .i64]],[.agg [.fz kS,.fz kI,.fz kI,.fz kI,.int .i64,.fz kT],.one (.int .i64)]⟩
def d158 : DC:=⟨s158,fun l=>WIn (Wrd.of l).bU,fun l=>(uJ (Wrd.of l) (Pik.of (l.drop 6))).1.ri ++ [.i (uJ (Wrd.of l) (Pik.of (l.drop 6))).2]⟩
def l158 : List (Nat × Ct):=[(156,d156.ct),(45,d45.ct),(98,d98.ct),(102,d102.ct),(108,d108.ct),(105,d105.ct),(68,d68.ct),(111,d111.ct)]
noncomputable def z158 : Cx:={ T:=ttA,C:=sigs l158,F:=[(203,Try.f203),(184,Try.f184)],hints:=[⟨158,38,false,[(209,.lt),(207,.fz kI)],[],[],[],0⟩],sig:=s158}
def t158 : Tree :=
 (.call 156 [.var 0,.var 1,.var 2,.var 3,.var 4,.var 5] 15
 (.ite (.var 8)
 (.ite (.eq (.var 19) (.int 1000000))
 (.ret [.nil,.nil,.nil,.nil,.int 0,.nil,.int 7])
 (.need (.fit (.add (.var 19) (.int 1)))
 (.need (.clean (.var 20) 15)
 (.ret [.var 15,.var 16,.var 17,.var 18,.add (.var 19) (.int 1),.shuts (.var 20) 15,.int 0]))))
 (.ite (.lt (.var 6) (.int 0))
 (.ret [.nil,.nil,.nil,.nil,.int 0,.nil,.int 5])
 (.ite (.le (.len (.var 20)) (.var 6))
 (.ret [.nil,.nil,.nil,.nil,.int 0,.nil,.int 5])
 (.need (.le (.int 0) (.var 6))
 (.need (.lt (.var 6) (.len (.var 20)))
 (.ite (.not (.var 7))
 (.call 45 [.var 15,.var 16,.var 17,.var 18,.var 19,.var 9,.var 10,.var 11,.var 12,.var 13,.var 14] 21
 (.ite (.cell (.var 20) (.var 6) 0)
 (.ret [.nil,.nil,.nil,.nil,.int 0,.nil,.int 8])
 (.ite (.not (.eq (.var 21) (.int 0)))
 (.ret [.nil,.nil,.nil,.nil,.int 0,.nil,.var 21])
 (.ite (.eq (.var 9) (.int 1))
 (.need (.isO (.cell (.var 20) (.var 6) 15))
 (.ite (.eq (.len (.shut (.cell (.var 20) (.var 6) 15))) (.int 100))
 (.ret [.nil,.nil,.nil,.nil,.int 0,.nil,.int 7])
 (.need (.clean (.set (.set (.set (.set (.set (.set (.set (.set (.set (.set (.set (.set (.set (.set (.set (.set (.var 20) (.var 6) 15 (.own (.shut (.cell (.var 20) (.var 6) 15)))) (.var 6) 0 (.bool true)) (.var 6) 1 (.var 9)) (.var 6) 2 (.var 10)) (.var 6) 3 (.var 11)) (.var 6) 4 (.var 12)) (.var 6) 5 (.var 13)) (.var 6) 6 (.var 14)) (.var 6) 7 (.int 0)) (.var 6) 8 (.int 0)) (.var 6) 9 (.int 0)) (.var 6) 10 (.int (-1))) (.var 6) 11 (.int 0)) (.var 6) 12 .nil) (.var 6) 13 (.bool false)) (.var 6) 14 (.int 0)) 15)
 (.ret [.var 15,.var 16,.var 17,.var 18,.var 19,.shuts (.set (.set (.set (.set (.set (.set (.set (.set (.set (.set (.set (.set (.set (.set (.set (.set (.var 20) (.var 6) 15 (.own (.shut (.cell (.var 20) (.var 6) 15)))) (.var 6) 0 (.bool true)) (.var 6) 1 (.var 9)) (.var 6) 2 (.var 10)) (.var 6) 3 (.var 11)) (.var 6) 4 (.var 12)) (.var 6) 5 (.var 13)) (.var 6) 6 (.var 14)) (.var 6) 7 (.int 0)) (.var 6) 8 (.int 0)) (.var 6) 9 (.int 0)) (.var 6) 10 (.int (-1))) (.var 6) 11 (.int 0)) (.var 6) 12 .nil) (.var 6) 13 (.bool false)) (.var 6) 14 (.int 0)) 15,.int 0]))))
 (.ite (.eq (.var 9) (.int 6))
 (.need (.isO (.cell (.var 20) (.var 6) 15))
 (.call 98 [.shut (.cell (.var 20) (.var 6) 15),.var 14] 22
 (.ite (.not (.var 22))
 (.ret [.nil,.nil,.nil,.nil,.int 0,.nil,.int 6])
 (.need (.clean (.set (.set (.set (.set (.set (.set (.set (.set (.set (.set (.set (.set (.set (.set (.set (.set (.var 20) (.var 6) 15 (.own (.shut (.cell (.var 20) (.var 6) 15)))) (.var 6) 0 (.bool true)) (.var 6) 1 (.var 9)) (.var 6) 2 (.var 10)) (.var 6) 3 (.var 11)) (.var 6) 4 (.var 12)) (.var 6) 5 (.var 13)) (.var 6) 6 (.var 14)) (.var 6) 7 (.int 0)) (.var 6) 8 (.int 0)) (.var 6) 9 (.int 0)) (.var 6) 10 (.int (-1))) (.var 6) 11 (.int 0)) (.var 6) 12 .nil) (.var 6) 13 (.bool false)) (.var 6) 14 (.int 0)) 15)
 (.ret [.var 15,.var 16,.var 17,.var 18,.var 19,.shuts (.set (.set (.set (.set (.set (.set (.set (.set (.set (.set (.set (.set (.set (.set (.set (.set (.var 20) (.var 6) 15 (.own (.shut (.cell (.var 20) (.var 6) 15)))) (.var 6) 0 (.bool true)) (.var 6) 1 (.var 9)) (.var 6) 2 (.var 10)) (.var 6) 3 (.var 11)) (.var 6) 4 (.var 12)) (.var 6) 5 (.var 13)) (.var 6) 6 (.var 14)) (.var 6) 7 (.int 0)) (.var 6) 8 (.int 0)) (.var 6) 9 (.int 0)) (.var 6) 10 (.int (-1))) (.var 6) 11 (.int 0)) (.var 6) 12 .nil) (.var 6) 13 (.bool false)) (.var 6) 14 (.int 0)) 15,.int 0])))))
 (.need (.clean (.set (.set (.set (.set (.set (.set (.set (.set (.set (.set (.set (.set (.set (.set (.set (.var 20) (.var 6) 0 (.bool true)) (.var 6) 1 (.var 9)) (.var 6) 2 (.var 10)) (.var 6) 3 (.var 11)) (.var 6) 4 (.var 12)) (.var 6) 5 (.var 13)) (.var 6) 6 (.var 14)) (.var 6) 7 (.int 0)) (.var 6) 8 (.int 0)) (.var 6) 9 (.int 0)) (.var 6) 10 (.int (-1))) (.var 6) 11 (.int 0)) (.var 6) 12 .nil) (.var 6) 13 (.bool false)) (.var 6) 14 (.int 0)) 15)
 (.ret [.var 15,.var 16,.var 17,.var 18,.var 19,.shuts (.set (.set (.set (.set (.set (.set (.set (.set (.set (.set (.set (.set (.set (.set (.set (.var 20) (.var 6) 0 (.bool true)) (.var 6) 1 (.var 9)) (.var 6) 2 (.var 10)) (.var 6) 3 (.var 11)) (.var 6) 4 (.var 12)) (.var 6) 5 (.var 13)) (.var 6) 6 (.var 14)) (.var 6) 7 (.int 0)) (.var 6) 8 (.int 0)) (.var 6) 9 (.int 0)) (.var 6) 10 (.int (-1))) (.var 6) 11 (.int 0)) (.var 6) 12 .nil) (.var 6) 13 (.bool false)) (.var 6) 14 (.int 0)) 15,.int 0])))))))
 (.ite (.not (.cell (.var 20) (.var 6) 0))
 (.ret [.nil,.nil,.nil,.nil,.int 0,.nil,.int 8])
 (.ite (.eq (.cell (.var 20) (.var 6) 1) (.int 1))
 (.call 102 [.var 15,.var 16,.var 17,.var 18,.var 19,.cell (.var 20) (.var 6) 1,.cell (.var 20) (.var 6) 2,.cell (.var 20) (.var 6) 3,.cell (.var 20) (.var 6) 4,.cell (.var 20) (.var 6) 5,.cell (.var 20) (.var 6) 6,.cell (.var 20) (.var 6) 7,.cell (.var 20) (.var 6) 8,.cell (.var 20) (.var 6) 9,.cell (.var 20) (.var 6) 10,.cell (.var 20) (.var 6) 11,.cell (.var 20) (.var 6) 12,.cell (.var 20) (.var 6) 13,.cell (.var 20) (.var 6) 14] 21
 (.ite (.var 38)
 (.ite (.eq (.var 39) (.int 0))
 (.need (.isO (.cell (.var 20) (.var 6) 15))
 (.need (.le (.add (.len (.shut (.cell (.var 20) (.var 6) 15))) (.int 1)) (.int 17592186044416))
 (.need (.clean (.set (.set (.set (.set (.set (.set (.set (.set (.set (.set (.set (.set (.set (.set (.set (.set (.var 20) (.var 6) 1 (.var 26)) (.var 6) 2 (.var 27)) (.var 6) 3 (.var 28)) (.var 6) 4 (.var 29)) (.var 6) 5 (.var 30)) (.var 6) 6 (.var 31)) (.var 6) 7 (.var 32)) (.var 6) 8 (.var 33)) (.var 6) 9 (.var 34)) (.var 6) 10 (.var 35)) (.var 6) 11 (.var 36)) (.var 6) 12 (.var 37)) (.var 6) 13 (.var 38)) (.var 6) 14 (.var 39)) (.var 6) 15 (.own (.app (.shut (.cell (.var 20) (.var 6) 15)) (.cons (.var 35) .row0)))) (.var 6) 0 (.not (.var 38))) 15)
 (.ret [.var 21,.var 22,.var 23,.var 24,.var 25,.shuts (.set (.set (.set (.set (.set (.set (.set (.set (.set (.set (.set (.set (.set (.set (.set (.set (.var 20) (.var 6) 1 (.var 26)) (.var 6) 2 (.var 27)) (.var 6) 3 (.var 28)) (.var 6) 4 (.var 29)) (.var 6) 5 (.var 30)) (.var 6) 6 (.var 31)) (.var 6) 7 (.var 32)) (.var 6) 8 (.var 33)) (.var 6) 9 (.var 34)) (.var 6) 10 (.var 35)) (.var 6) 11 (.var 36)) (.var 6) 12 (.var 37)) (.var 6) 13 (.var 38)) (.var 6) 14 (.var 39)) (.var 6) 15 (.own (.app (.shut (.cell (.var 20) (.var 6) 15)) (.cons (.var 35) .row0)))) (.var 6) 0 (.not (.var 38))) 15,.int 0]))))
 (.need (.clean (.set (.set (.set (.set (.set (.set (.set (.set (.set (.set (.set (.set (.set (.set (.set (.var 20) (.var 6) 1 (.var 26)) (.var 6) 2 (.var 27)) (.var 6) 3 (.var 28)) (.var 6) 4 (.var 29)) (.var 6) 5 (.var 30)) (.var 6) 6 (.var 31)) (.var 6) 7 (.var 32)) (.var 6) 8 (.var 33)) (.var 6) 9 (.var 34)) (.var 6) 10 (.var 35)) (.var 6) 11 (.var 36)) (.var 6) 12 (.var 37)) (.var 6) 13 (.var 38)) (.var 6) 14 (.var 39)) (.var 6) 0 (.not (.var 38))) 15)
 (.ret [.var 21,.var 22,.var 23,.var 24,.var 25,.shuts (.set (.set (.set (.set (.set (.set (.set (.set (.set (.set (.set (.set (.set (.set (.set (.var 20) (.var 6) 1 (.var 26)) (.var 6) 2 (.var 27)) (.var 6) 3 (.var 28)) (.var 6) 4 (.var 29)) (.var 6) 5 (.var 30)) (.var 6) 6 (.var 31)) (.var 6) 7 (.var 32)) (.var 6) 8 (.var 33)) (.var 6) 9 (.var 34)) (.var 6) 10 (.var 35)) (.var 6) 11 (.var 36)) (.var 6) 12 (.var 37)) (.var 6) 13 (.var 38)) (.var 6) 14 (.var 39)) (.var 6) 0 (.not (.var 38))) 15,.int 0])))
 (.need (.clean (.set (.set (.set (.set (.set (.set (.set (.set (.set (.set (.set (.set (.set (.set (.set (.var 20) (.var 6) 1 (.var 26)) (.var 6) 2 (.var 27)) (.var 6) 3 (.var 28)) (.var 6) 4 (.var 29)) (.var 6) 5 (.var 30)) (.var 6) 6 (.var 31)) (.var 6) 7 (.var 32)) (.var 6) 8 (.var 33)) (.var 6) 9 (.var 34)) (.var 6) 10 (.var 35)) (.var 6) 11 (.var 36)) (.var 6) 12 (.var 37)) (.var 6) 13 (.var 38)) (.var 6) 14 (.var 39)) (.var 6) 0 (.not (.var 38))) 15)
 (.ret [.var 21,.var 22,.var 23,.var 24,.var 25,.shuts (.set (.set (.set (.set (.set (.set (.set (.set (.set (.set (.set (.set (.set (.set (.set (.var 20) (.var 6) 1 (.var 26)) (.var 6) 2 (.var 27)) (.var 6) 3 (.var 28)) (.var 6) 4 (.var 29)) (.var 6) 5 (.var 30)) (.var 6) 6 (.var 31)) (.var 6) 7 (.var 32)) (.var 6) 8 (.var 33)) (.var 6) 9 (.var 34)) (.var 6) 10 (.var 35)) (.var 6) 11 (.var 36)) (.var 6) 12 (.var 37)) (.var 6) 13 (.var 38)) (.var 6) 14 (.var 39)) (.var 6) 0 (.not (.var 38))) 15,.int 0]))))
 (.ite (.eq (.cell (.var 20) (.var 6) 1) (.int 2))
 (.call 108 [.var 15,.var 16,.var 17,.var 18,.var 19,.cell (.var 20) (.var 6) 1,.cell (.var 20) (.var 6) 2,.cell (.var 20) (.var 6) 3,.cell (.var 20) (.var 6) 4,.cell (.var 20) (.var 6) 5,.cell (.var 20) (.var 6) 6,.cell (.var 20) (.var 6) 7,.cell (.var 20) (.var 6) 8,.cell (.var 20) (.var 6) 9,.cell (.var 20) (.var 6) 10,.cell (.var 20) (.var 6) 11,.cell (.var 20) (.var 6) 12,.cell (.var 20) (.var 6) 13,.cell (.var 20) (.var 6) 14,.var 6] 21
 (.need (.clean (.set (.set (.set (.set (.set (.set (.set (.set (.set (.set (.set (.set (.set (.set (.set (.var 20) (.var 6) 1 (.var 26)) (.var 6) 2 (.var 27)) (.var 6) 3 (.var 28)) (.var 6) 4 (.var 29)) (.var 6) 5 (.var 30)) (.var 6) 6 (.var 31)) (.var 6) 7 (.var 32)) (.var 6) 8 (.var 33)) (.var 6) 9 (.var 34)) (.var 6) 10 (.var 35)) (.var 6) 11 (.var 36)) (.var 6) 12 (.var 37)) (.var 6) 13 (.var 38)) (.var 6) 14 (.var 39)) (.var 6) 0 (.not (.var 38))) 15)
 (.ret [.var 21,.var 22,.var 23,.var 24,.var 25,.shuts (.set (.set (.set (.set (.set (.set (.set (.set (.set (.set (.set (.set (.set (.set (.set (.var 20) (.var 6) 1 (.var 26)) (.var 6) 2 (.var 27)) (.var 6) 3 (.var 28)) (.var 6) 4 (.var 29)) (.var 6) 5 (.var 30)) (.var 6) 6 (.var 31)) (.var 6) 7 (.var 32)) (.var 6) 8 (.var 33)) (.var 6) 9 (.var 34)) (.var 6) 10 (.var 35)) (.var 6) 11 (.var 36)) (.var 6) 12 (.var 37)) (.var 6) 13 (.var 38)) (.var 6) 14 (.var 39)) (.var 6) 0 (.not (.var 38))) 15,.int 0])))
 (.ite (.eq (.cell (.var 20) (.var 6) 1) (.int 3))
 (.call 105 [.var 15,.var 16,.var 17,.var 18,.var 19,.cell (.var 20) (.var 6) 1,.cell (.var 20) (.var 6) 2,.cell (.var 20) (.var 6) 3,.cell (.var 20) (.var 6) 4,.cell (.var 20) (.var 6) 5,.cell (.var 20) (.var 6) 6,.cell (.var 20) (.var 6) 7,.cell (.var 20) (.var 6) 8,.cell (.var 20) (.var 6) 9,.cell (.var 20) (.var 6) 10,.cell (.var 20) (.var 6) 11,.cell (.var 20) (.var 6) 12,.cell (.var 20) (.var 6) 13,.cell (.var 20) (.var 6) 14,.var 6] 21
 (.need (.clean (.set (.set (.set (.set (.set (.set (.set (.set (.set (.set (.set (.set (.set (.set (.set (.var 20) (.var 6) 1 (.var 26)) (.var 6) 2 (.var 27)) (.var 6) 3 (.var 28)) (.var 6) 4 (.var 29)) (.var 6) 5 (.var 30)) (.var 6) 6 (.var 31)) (.var 6) 7 (.var 32)) (.var 6) 8 (.var 33)) (.var 6) 9 (.var 34)) (.var 6) 10 (.var 35)) (.var 6) 11 (.var 36)) (.var 6) 12 (.var 37)) (.var 6) 13 (.var 38)) (.var 6) 14 (.var 39)) (.var 6) 0 (.not (.var 38))) 15)
 (.ret [.var 21,.var 22,.var 23,.var 24,.var 25,.shuts (.set (.set (.set (.set (.set (.set (.set (.set (.set (.set (.set (.set (.set (.set (.set (.var 20) (.var 6) 1 (.var 26)) (.var 6) 2 (.var 27)) (.var 6) 3 (.var 28)) (.var 6) 4 (.var 29)) (.var 6) 5 (.var 30)) (.var 6) 6 (.var 31)) (.var 6) 7 (.var 32)) (.var 6) 8 (.var 33)) (.var 6) 9 (.var 34)) (.var 6) 10 (.var 35)) (.var 6) 11 (.var 36)) (.var 6) 12 (.var 37)) (.var 6) 13 (.var 38)) (.var 6) 14 (.var 39)) (.var 6) 0 (.not (.var 38))) 15,.int 0])))
 (.ite (.eq (.cell (.var 20) (.var 6) 1) (.int 6))
 (.need (.isO (.cell (.var 20) (.var 6) 15))
 (.need (.clean (.set (.var 20) (.var 6) 15 (.shut (.cell (.var 20) (.var 6) 15))) 15)
 (.loop 21 [.sl 8 [.int .i64],.int .i64] [.shut (.cell (.var 20) (.var 6) 15),.int 0]
 (.ite (.lt (.var 23) (.len (.shut (.cell (.var 20) (.var 6) 15))))
 (.need (.le (.int 0) (.var 23))
 (.need (.lt (.var 23) (.len (.var 22)))
 (.ite (.eq (.cell (.var 22) (.var 23) 0) (.cell (.var 20) (.var 6) 6))
 (.call 68 [.var 15,.var 16,.var 17,.var 18,.var 19,.cell (.var 22) (.var 23) 0] 24
 (.need (.fit (.add (.var 23) (.int 1)))
 (.need (.isL (.shut (.cell (.var 20) (.var 6) 15)))
 (.need (.le (.var 23) (.len (.shut (.cell (.var 20) (.var 6) 15))))
 (.need (.le (.int 0) (.add (.var 23) (.int 1)))
 (.need (.le (.add (.var 23) (.int 1)) (.len (.shut (.cell (.var 20) (.var 6) 15))))
 (.need (.le (.len (.take (.var 23) (.shut (.cell (.var 20) (.var 6) 15)))) (.int 17592186044416))
 (.need (.le (.add (.len (.take (.var 23) (.shut (.cell (.var 20) (.var 6) 15)))) (.len (.drop (.add (.var 23) (.int 1)) (.shut (.cell (.var 20) (.var 6) 15))))) (.int 17592186044416))
 (.need (.clean (.set (.set (.set (.set (.set (.set (.set (.set (.set (.set (.set (.set (.set (.set (.set (.set (.var 20) (.var 6) 15 (.own (.app (.app .nil (.take (.var 23) (.shut (.cell (.var 20) (.var 6) 15)))) (.drop (.add (.var 23) (.int 1)) (.shut (.cell (.var 20) (.var 6) 15)))))) (.var 6) 1 (.cell (.var 20) (.var 6) 1)) (.var 6) 2 (.cell (.var 20) (.var 6) 2)) (.var 6) 3 (.cell (.var 20) (.var 6) 3)) (.var 6) 4 (.cell (.var 20) (.var 6) 4)) (.var 6) 5 (.cell (.var 20) (.var 6) 5)) (.var 6) 6 (.cell (.var 20) (.var 6) 6)) (.var 6) 7 (.cell (.var 20) (.var 6) 7)) (.var 6) 8 (.cell (.var 20) (.var 6) 8)) (.var 6) 9 (.cell (.var 20) (.var 6) 9)) (.var 6) 10 (.cell (.var 20) (.var 6) 10)) (.var 6) 11 (.cell (.var 20) (.var 6) 11)) (.var 6) 12 (.cell (.var 20) (.var 6) 12)) (.var 6) 13 (.bool true)) (.var 6) 14 (.int 0)) (.var 6) 0 (.bool false)) 15)
 (.ret [.var 24,.var 25,.var 26,.var 27,.var 28,.shuts (.set (.set (.set (.set (.set (.set (.set (.set (.set (.set (.set (.set (.set (.set (.set (.set (.var 20) (.var 6) 15 (.own (.app (.app .nil (.take (.var 23) (.shut (.cell (.var 20) (.var 6) 15)))) (.drop (.add (.var 23) (.int 1)) (.shut (.cell (.var 20) (.var 6) 15)))))) (.var 6) 1 (.cell (.var 20) (.var 6) 1)) (.var 6) 2 (.cell (.var 20) (.var 6) 2)) (.var 6) 3 (.cell (.var 20) (.var 6) 3)) (.var 6) 4 (.cell (.var 20) (.var 6) 4)) (.var 6) 5 (.cell (.var 20) (.var 6) 5)) (.var 6) 6 (.cell (.var 20) (.var 6) 6)) (.var 6) 7 (.cell (.var 20) (.var 6) 7)) (.var 6) 8 (.cell (.var 20) (.var 6) 8)) (.var 6) 9 (.cell (.var 20) (.var 6) 9)) (.var 6) 10 (.cell (.var 20) (.var 6) 10)) (.var 6) 11 (.cell (.var 20) (.var 6) 11)) (.var 6) 12 (.cell (.var 20) (.var 6) 12)) (.var 6) 13 (.bool true)) (.var 6) 14 (.int 0)) (.var 6) 0 (.bool false)) 15,.int 0]))))))))))
 (.need (.fit (.add (.var 23) (.int 1)))
 (.back 21 [.var 22,.add (.var 23) (.int 1)])))))
 (.need (.clean (.set (.set (.set (.set (.set (.set (.set (.set (.set (.set (.set (.set (.set (.set (.set (.set (.var 20) (.var 6) 15 (.shut (.cell (.var 20) (.var 6) 15))) (.var 6) 1 (.cell (.var 20) (.var 6) 1)) (.var 6) 2 (.cell (.var 20) (.var 6) 2)) (.var 6) 3 (.cell (.var 20) (.var 6) 3)) (.var 6) 4 (.cell (.var 20) (.var 6) 4)) (.var 6) 5 (.cell (.var 20) (.var 6) 5)) (.var 6) 6 (.cell (.var 20) (.var 6) 6)) (.var 6) 7 (.cell (.var 20) (.var 6) 7)) (.var 6) 8 (.cell (.var 20) (.var 6) 8)) (.var 6) 9 (.cell (.var 20) (.var 6) 9)) (.var 6) 10 (.cell (.var 20) (.var 6) 10)) (.var 6) 11 (.cell (.var 20) (.var 6) 11)) (.var 6) 12 (.cell (.var 20) (.var 6) 12)) (.var 6) 13 (.bool true)) (.var 6) 14 (.int 0)) (.var 6) 0 (.bool false)) 15)
 (.ret [.var 15,.var 16,.var 17,.var 18,.var 19,.shuts (.set (.set (.set (.set (.set (.set (.set (.set (.set (.set (.set (.set (.set (.set (.set (.set (.var 20) (.var 6) 15 (.shut (.cell (.var 20) (.var 6) 15))) (.var 6) 1 (.cell (.var 20) (.var 6) 1)) (.var 6) 2 (.cell (.var 20) (.var 6) 2)) (.var 6) 3 (.cell (.var 20) (.var 6) 3)) (.var 6) 4 (.cell (.var 20) (.var 6) 4)) (.var 6) 5 (.cell (.var 20) (.var 6) 5)) (.var 6) 6 (.cell (.var 20) (.var 6) 6)) (.var 6) 7 (.cell (.var 20) (.var 6) 7)) (.var 6) 8 (.cell (.var 20) (.var 6) 8)) (.var 6) 9 (.cell (.var 20) (.var 6) 9)) (.var 6) 10 (.cell (.var 20) (.var 6) 10)) (.var 6) 11 (.cell (.var 20) (.var 6) 11)) (.var 6) 12 (.cell (.var 20) (.var 6) 12)) (.var 6) 13 (.bool true)) (.var 6) 14 (.int 0)) (.var 6) 0 (.bool false)) 15,.int 0]))))))
 (.call 111 [.var 15,.var 16,.var 17,.var 18,.var 19,.cell (.var 20) (.var 6) 1,.cell (.var 20) (.var 6) 2,.cell (.var 20) (.var 6) 3,.cell (.var 20) (.var 6) 4,.cell (.var 20) (.var 6) 5,.cell (.var 20) (.var 6) 6,.cell (.var 20) (.var 6) 7,.cell (.var 20) (.var 6) 8,.cell (.var 20) (.var 6) 9,.cell (.var 20) (.var 6) 10,.cell (.var 20) (.var 6) 11,.cell (.var 20) (.var 6) 12,.cell (.var 20) (.var 6) 13,.cell (.var 20) (.var 6) 14,.var 6] 21
 (.need (.clean (.set (.set (.set (.set (.set (.set (.set (.set (.set (.set (.set (.set (.set (.set (.set (.var 20) (.var 6) 1 (.var 26)) (.var 6) 2 (.var 27)) (.var 6) 3 (.var 28)) (.var 6) 4 (.var 29)) (.var 6) 5 (.var 30)) (.var 6) 6 (.var 31)) (.var 6) 7 (.var 32)) (.var 6) 8 (.var 33)) (.var 6) 9 (.var 34)) (.var 6) 10 (.var 35)) (.var 6) 11 (.var 36)) (.var 6) 12 (.var 37)) (.var 6) 13 (.var 38)) (.var 6) 14 (.var 39)) (.var 6) 0 (.not (.var 38))) 15)
 (.ret [.var 21,.var 22,.var 23,.var 24,.var 25,.shuts (.set (.set (.set (.set (.set (.set (.set (.set (.set (.set (.set (.set (.set (.set (.set (.var 20) (.var 6) 1 (.var 26)) (.var 6) 2 (.var 27)) (.var 6) 3 (.var 28)) (.var 6) 4 (.var 29)) (.var 6) 5 (.var 30)) (.var 6) 6 (.var 31)) (.var 6) 7 (.var 32)) (.var 6) 8 (.var 33)) (.var 6) 9 (.var 34)) (.var 6) 10 (.var 35)) (.var 6) 11 (.var 36)) (.var 6) 12 (.var 37)) (.var 6) 13 (.var 38)) (.var 6) 14 (.var 39)) (.var 6) 0 (.not (.var 38))) 15,.int 0])))))))))))))))
theorem run158 : run z158 6000 [.code (Try.f158.body.getD .skip),.fin (aP z158 Try.f158.results.toList 50)] { fn:=158,tmps:=z158.sig.aE ++ List.replicate (Try.f158.ntmps - z158.sig.aE.length) (.v (.one .undef)),stk:=[],h:=z158.sig.h0,nx:=z158.sig.ins.length,known:=[]}=t158:=by kernel_rfl
set_option maxHeartbeats 8000000 in
theorem ok158 : bJ Try.prog 158 d158.ct:=by
 refine ax (d:=d158) (Z:=z158) (Γ:=gam l158) (fn:=Try.f158) (c:=Try.f158.body.getD .skip) (aJ tok mixed (all_cons ok156 (all_cons ok45 (all_cons ok98 (all_cons ok102 (all_cons ok108 (all_cons ok105 (all_cons ok68 (all_cons ok111 all_nil)))))))) (cv (c:=Try.f203.body.getD .skip) Try.func203 (by kernel_rfl) (by kernel_rfl) (cv (c:=Try.f184.body.getD .skip) Try.func184 (by kernel_rfl) (by kernel_rfl) aK))) Try.func158 (by kernel_rfl) (by kernel_rfl) rfl run158 fun E hk hp=>?_
 obtain ⟨hk0,hk1,hk2,hk3,hk4,hk5,hk6,hk7,hk8,hk9,hk10,hk11,hk12,hk13,hk14,_⟩:=hk
 obtain ⟨m,e0,e1,e2,e3,e4,b0,b1,b2,b3⟩:=bp (d0:=E 0) (d1:=E 1) (d2:=E 2) (d3:=E 3) (d4:=E 4) hk0 hk1 hk2 hk3 hk4
 obtain ⟨ts,e5,hts,b5⟩:=dB (d:=E 5) hk5
 have b5 : ts.length * 160≤140737488355328:=b5
 obtain ⟨x,e6,e7,e8,e9,e10,e11,e12,e13,e14⟩:=lS (d0:=E 6) (d1:=E 7) (d2:=E 8) (d3:=E 9) (d4:=E 10) (d5:=E 11) (d6:=E 12) (d7:=E 13) (d8:=E 14) hk6 hk7 hk8 hk9 hk10 hk11 hk12 hk13 hk14
 have el : aG E d158.sig.ins.length=[ai m.slots,aa m.heads,aa m.free,aa m.locks,.i m.now,aA ts,.i x.task,.b x.step,.b x.tick,.i x.c.kind,.i x.c.k.a,.i x.c.k.b,.i x.c.time,.i x.c.bucket,.i x.c.slot]:=by
  show [E 0,E 1,E 2,E 3,E 4,E 5,E 6,E 7,E 8,E 9,E 10,E 11,E 12,E 13,E 14]=_
  rw [e0,e1,e2,e3,e4,e5,e6,e7,e8,e9,e10,e11,e12,e13,e14]
 rw [el] at hp
 rw [el]
 rw [Env.aU el]
 clear el e0 e1 e2 e3 e4 e5 e6 e7 e8 e9 e10 e11 e12 e13 e14
 have hown : ∀ t∈ts,t.own=false:=fun t ht=>(hts t ht).1
 simp only [d158,bW _ _ _ _ _ hown,List.drop_succ_cons,List.drop_zero,eW,aq,bF] at hp ⊢
 obtain ⟨xt,xs,xk,c⟩:=x
 have hw:=hp
 unfold uJ
 unfold t158
 obtain ⟨us,hu⟩ : ∃ us,Wrd.bU ⟨m,ts⟩=⟨m,us⟩:=⟨_,rfl⟩
 rw [hu] at hw ⊢
 refine ah d156 [ai m.slots,aa m.heads,aa m.free,aa m.locks,.i m.now,ar us] rfl trivial (by simp only [nrm,xdn,reduceIte,Nat.reduceLT,Nat.reduceSub,Nat.reduceAdd,d156,nY,hu];rfl) ?_
 obtain ⟨q0,hq⟩ : ∃ q,cJ ⟨m,us⟩ ⟨xt,xs,xk,c⟩=q:=⟨_,rfl⟩
 rw [hq]
 unfold cJ at hq
 refine ae (fun h=>?_) (fun h=>?_)
 ·simp only [nrm,xdn,reduceIte,Nat.reduceLT,Nat.reduceSub,Nat.reduceAdd] at h
  rw [if_pos h] at hq
  refine ae (fun h1=>ag ?_) (fun h1=>?_)
  ·simp only [nrm,xdn,reduceIte,Nat.reduceLT,Nat.reduceSub,Nat.reduceAdd] at h1
   rw [if_pos h1] at hq
   subst hq
   simp only [nrm,xdn,reduceIte,Nat.reduceLT,Nat.reduceSub,Nat.reduceAdd]
   rfl
  ·simp only [nrm,xdn,reduceIte,Nat.reduceLT,Nat.reduceSub,Nat.reduceAdd] at h1
   rw [if_neg h1] at hq
   have hn : m.now≤1000000:=hw.m.oM
   have hn0 : 0≤m.now:=hw.m.oN
   subst hq
   refine aH (by simp only [nrm,xdn,reduceIte,Nat.reduceLT,Nat.reduceSub,Nat.reduceAdd];omega) (af (by simp only [nrm,xdn,reduceIte,Nat.reduceLT,Nat.reduceSub,Nat.reduceAdd];exact az us) (ag ?_))
   simp only [nrm,xdn,reduceIte,Nat.reduceLT,Nat.reduceSub,Nat.reduceAdd,aD]
   rfl
 simp only [nrm,xdn,reduceIte,Nat.reduceLT,Nat.reduceSub,Nat.reduceAdd] at h
 rw [if_neg (by rw [h];exact Bool.false_ne_true)] at hq
 refine ae (fun h1=>ag ?_) (fun h1=>ae (fun h2=>ag ?_) (fun h2=>?_))
 ·simp only [nrm,xdn,reduceIte,Nat.reduceLT,Nat.reduceSub,Nat.reduceAdd] at h1
  rw [if_pos (.inl h1)] at hq
  subst hq
  simp only [nrm,xdn,reduceIte,Nat.reduceLT,Nat.reduceSub,Nat.reduceAdd]
  rfl
 ·simp only [nrm,xdn,reduceIte,Nat.reduceLT,Nat.reduceSub,Nat.reduceAdd,cC] at h2
  rw [if_pos (.inr h2)] at hq
  subst hq
  simp only [nrm,xdn,reduceIte,Nat.reduceLT,Nat.reduceSub,Nat.reduceAdd]
  rfl
 simp only [nrm,xdn,reduceIte,Nat.reduceLT,Nat.reduceSub,Nat.reduceAdd,cC] at h1 h2
 rw [if_neg (fun y=>y.elim h1 h2)] at hq
 obtain ⟨k,rfl⟩ : ∃ k : Nat,xt=k:=⟨xt.toNat,by omega⟩
 have hk : k < us.length:=by omega
 obtain ⟨t,ht⟩ : ∃ t,us.getD k default=t:=⟨_,rfl⟩
 have hin : t∈us:=ht ▸ dn hk
 have hto : t.own=true:=(hw.t _ hin).1
 have hfit : t.held.length≤10000:=(hw.t _ hin).2.1
 have hf:=(hw.t _ hin).2.2
 have hm : aO m:=hw.m
 have htt : tsk ⟨m,us⟩ k=t:=by unfold tsk;rw [Int.toNat_natCast];exact ht
 have e0 : ((ar us).rows.getD k []).getD 0 .u=.b t.busy:=by rw [bN 0 hk,ht];rfl
 have e1 : ((ar us).rows.getD k []).getD 1 .u=.i t.f.c.kind:=by rw [bN 1 hk,ht];rfl
 have e2 : ((ar us).rows.getD k []).getD 2 .u=.i t.f.c.k.a:=by rw [bN 2 hk,ht];rfl
 have e3 : ((ar us).rows.getD k []).getD 3 .u=.i t.f.c.k.b:=by rw [bN 3 hk,ht];rfl
 have e4 : ((ar us).rows.getD k []).getD 4 .u=.i t.f.c.time:=by rw [bN 4 hk,ht];rfl
 have e5 : ((ar us).rows.getD k []).getD 5 .u=.i t.f.c.bucket:=by rw [bN 5 hk,ht];rfl
 have e6 : ((ar us).rows.getD k []).getD 6 .u=.i t.f.c.slot:=by rw [bN 6 hk,ht];rfl
 have e7 : ((ar us).rows.getD k []).getD 7 .u=.i t.f.pc:=by rw [bN 7 hk,ht];rfl
 have e8 : ((ar us).rows.getD k []).getD 8 .u=.i t.f.cur:=by rw [bN 8 hk,ht];rfl
 have e9 : ((ar us).rows.getD k []).getD 9 .u=.i t.f.prev:=by rw [bN 9 hk,ht];rfl
 have e10 : ((ar us).rows.getD k []).getD 10 .u=.i t.f.slot:=by rw [bN 10 hk,ht];rfl
 have e11 : ((ar us).rows.getD k []).getD 11 .u=.i t.f.n:=by rw [bN 11 hk,ht];rfl
 have e12 : ((ar us).rows.getD k []).getD 12 .u=ba t.f.keys:=by rw [bN 12 hk,ht];rfl
 have e13 : ((ar us).rows.getD k []).getD 13 .u=.b t.f.done:=by rw [bN 13 hk,ht];rfl
 have e14 : ((ar us).rows.getD k []).getD 14 .u=.i t.f.e:=by rw [bN 14 hk,ht];rfl
 have e15 : ((ar us).rows.getD k []).getD 15 .u=jd t.held:=by rw [bN 15 hk,ht,er hto];rfl
 have eo : (jd t.held).isO=true:=rfl
 have es : (jd t.held).shut=aa t.held:=rfl
 have eL : (aa t.held).isL=true:=rfl
 refine af (by simp only [nrm,xdn,reduceIte,Nat.reduceLT,Nat.reduceSub,Nat.reduceAdd];omega) (af (by simp only [nrm,xdn,reduceIte,Nat.reduceLT,Nat.reduceSub,Nat.reduceAdd,cC];omega) (ae (fun h3=>?_) (fun h3=>?_)))
 ·simp only [nrm,xdn,reduceIte,Nat.reduceLT,Nat.reduceSub,Nat.reduceAdd,Bool.not_eq_true'] at h3
  rw [if_neg (by rw [h3];exact Bool.false_ne_true)] at hq
  unfold gy at hq
  rw [htt] at hq
  have hA : CD.l ((ar us).rows.modify k fun r=>((((((((((((((((r.set 15 (.o (aa t.held).rows)).set 0 (.b true)).set 1 (.i c.kind)).set 2 (.i c.k.a)).set 3 (.i c.k.b)).set 4 (.i c.time)).set 5 (.i c.bucket)).set 6 (.i c.slot)).set 7 (.i 0)).set 8 (.i 0)).set 9 (.i 0)).set 10 (.i (-1))).set 11 (.i 0)).set 12 (.l [])).set 13 (.b false)).set 14 (.i 0)))=ar (us.modify k fun t=>{ t with busy:=true,f:=dm c}):=put_A ht hto true (dm c)
  have hF : CD.l ((ar us).rows.modify k fun r=>(((((((((((((((r.set 0 (.b true)).set 1 (.i c.kind)).set 2 (.i c.k.a)).set 3 (.i c.k.b)).set 4 (.i c.time)).set 5 (.i c.bucket)).set 6 (.i c.slot)).set 7 (.i 0)).set 8 (.i 0)).set 9 (.i 0)).set 10 (.i (-1))).set 11 (.i 0)).set 12 (.l [])).set 13 (.b false)).set 14 (.i 0)))=ar (us.modify k fun t=>{ t with busy:=true,f:=dm c}):=put_F ht hto true (dm c)
  refine ah d45 [.i (bg m c)] rfl trivial (by simp only [nrm,xdn,reduceIte,Nat.reduceLT,Nat.reduceSub,Nat.reduceAdd,d45,mem_of,aq,dz,bF,List.drop_succ_cons,List.drop_zero]) (ae (fun h4=>ag ?_) (fun h4=>?_))
  ·simp only [nrm,xdn,reduceIte,Nat.reduceLT,Nat.reduceSub,Nat.reduceAdd,Int.toNat_natCast,e0] at h4
   rw [if_pos h4] at hq
   subst hq
   simp only [nrm,xdn,reduceIte,Nat.reduceLT,Nat.reduceSub,Nat.reduceAdd]
   rfl
  simp only [nrm,xdn,reduceIte,Nat.reduceLT,Nat.reduceSub,Nat.reduceAdd,Int.toNat_natCast,e0] at h4
  rw [if_neg (by rw [h4];exact Bool.false_ne_true)] at hq
  refine ae (fun h5=>ag ?_) (fun h5=>?_)
  ·simp only [nrm,xdn,reduceIte,Nat.reduceLT,Nat.reduceSub,Nat.reduceAdd] at h5
   have h5 : ¬ bg m c=0:=by simpa using h5
   rw [if_pos h5] at hq
   subst hq
   simp only [nrm,xdn,reduceIte,Nat.reduceLT,Nat.reduceSub,Nat.reduceAdd]
   rw [if_pos (show ((⟨m,us⟩ : Wrd),bg m c).2≠0 from h5)]
   rfl
  simp only [nrm,xdn,reduceIte,Nat.reduceLT,Nat.reduceSub,Nat.reduceAdd] at h5
  rw [if_neg (by simpa using h5)] at hq
  refine ae (fun h6=>?_) (fun h6=>?_)
  ·simp only [nrm,xdn,reduceIte,Nat.reduceLT,Nat.reduceSub,Nat.reduceAdd] at h6
   refine af (by simp only [nrm,xdn,reduceIte,Nat.reduceLT,Nat.reduceSub,Nat.reduceAdd,Int.toNat_natCast,e15,eo]) (ae (fun h7=>ag ?_) (fun h7=>?_))
   ·simp only [nrm,xdn,reduceIte,Nat.reduceLT,Nat.reduceSub,Nat.reduceAdd,Int.toNat_natCast,e15,es,aj] at h7
    rw [if_pos ⟨by omega,h6⟩] at hq
    subst hq
    simp only [nrm,xdn,reduceIte,Nat.reduceLT,Nat.reduceSub,Nat.reduceAdd]
    rfl
   simp only [nrm,xdn,reduceIte,Nat.reduceLT,Nat.reduceSub,Nat.reduceAdd,Int.toNat_natCast,e15,es,aj] at h7
   rw [if_neg (fun y=>h7 (by omega)),if_neg (show ¬ (c.kind=6∧c.slot ∉ t.held) from fun y=>by have y:=y.1;rw [h6] at y;cases y)] at hq
   subst hq
   refine af ?_ (ag ?_)
   ·simp only [nrm,xdn,reduceIte,Nat.reduceLT,Nat.reduceSub,Nat.reduceAdd,Int.toNat_natCast,e15,es,CD.aC,av]
    exact cls hA
   ·simp only [nrm,xdn,reduceIte,Nat.reduceLT,Nat.reduceSub,Nat.reduceAdd,Int.toNat_natCast,e15,es,CD.aC,av]
    rw [show ((ar us).rows.modify k _)=(ar _).rows from congrArg CD.rows hA,aD]
    rfl
  simp only [nrm,xdn,reduceIte,Nat.reduceLT,Nat.reduceSub,Nat.reduceAdd] at h6
  rw [if_neg (fun y=>h6 y.2)] at hq
  refine ae (fun h7=>?_) (fun h7=>?_)
  ·simp only [nrm,xdn,reduceIte,Nat.reduceLT,Nat.reduceSub,Nat.reduceAdd] at h7
   refine af (by simp only [nrm,xdn,reduceIte,Nat.reduceLT,Nat.reduceSub,Nat.reduceAdd,Int.toNat_natCast,e15,eo]) (ah d98 [.b (decide (c.slot∈t.held))] rfl trivial (by simp only [nrm,xdn,reduceIte,Nat.reduceLT,Nat.reduceSub,Nat.reduceAdd,Int.toNat_natCast,e15,es,d98,bz]) (ae (fun h8=>ag ?_) (fun h8=>?_)))
   ·simp only [nrm,xdn,reduceIte,Nat.reduceLT,Nat.reduceSub,Nat.reduceAdd] at h8
    have h8 : c.slot ∉ t.held:=by simpa using h8
    rw [if_pos ⟨h7,h8⟩] at hq
    subst hq
    simp only [nrm,xdn,reduceIte,Nat.reduceLT,Nat.reduceSub,Nat.reduceAdd]
    rfl
   simp only [nrm,xdn,reduceIte,Nat.reduceLT,Nat.reduceSub,Nat.reduceAdd] at h8
   have h8 : c.slot∈t.held:=by simpa using h8
   rw [if_neg (fun y=>y.2 h8)] at hq
   subst hq
   refine af ?_ (ag ?_)
   ·simp only [nrm,xdn,reduceIte,Nat.reduceLT,Nat.reduceSub,Nat.reduceAdd,Int.toNat_natCast,e15,es,CD.aC,av]
    exact cls hA
   ·simp only [nrm,xdn,reduceIte,Nat.reduceLT,Nat.reduceSub,Nat.reduceAdd,Int.toNat_natCast,e15,es,CD.aC,av]
    rw [show ((ar us).rows.modify k _)=(ar _).rows from congrArg CD.rows hA,aD]
    rfl
  simp only [nrm,xdn,reduceIte,Nat.reduceLT,Nat.reduceSub,Nat.reduceAdd] at h7
  rw [if_neg (fun y=>h7 y.1)] at hq
  subst hq
  refine af ?_ (ag ?_)
  ·simp only [nrm,xdn,reduceIte,Nat.reduceLT,Nat.reduceSub,Nat.reduceAdd,Int.toNat_natCast,CD.aC,av]
   exact cls hF
  ·simp only [nrm,xdn,reduceIte,Nat.reduceLT,Nat.reduceSub,Nat.reduceAdd,Int.toNat_natCast,CD.aC,av]
   rw [show ((ar us).rows.modify k _)=(ar _).rows from congrArg CD.rows hF,aD]
   rfl
 simp only [nrm,xdn,reduceIte,Nat.reduceLT,Nat.reduceSub,Nat.reduceAdd,Bool.not_eq_false'] at h3
 rw [if_pos h3] at hq
 unfold jo at hq
 rw [htt] at hq
 refine ae (fun h=>ag ?_) (fun h=>?_)
 ·simp only [nrm,xdn,reduceIte,Nat.reduceLT,Nat.reduceSub,Nat.reduceAdd,Int.toNat_natCast,e0,Bool.not_eq_true'] at h
  rw [if_pos h] at hq
  subst hq
  simp only [nrm,xdn,reduceIte,Nat.reduceLT,Nat.reduceSub,Nat.reduceAdd]
  rfl
 simp only [nrm,xdn,reduceIte,Nat.reduceLT,Nat.reduceSub,Nat.reduceAdd,Int.toNat_natCast,e0,Bool.not_eq_false'] at h
 rw [if_neg (by rw [h];exact fun x=>Bool.noConfusion x)] at hq
 have hf : bL m t.f:=hf h
 refine ae (fun h1=>?_) (fun h1=>?_)
 ·simp only [nrm,xdn,reduceIte,Nat.reduceLT,Nat.reduceSub,Nat.reduceAdd,Int.toNat_natCast,e1] at h1
  rw [if_pos h1] at hq
  refine ah d102 ((bw m t.f).2.cds ++ (bw m t.f).1.cds) rfl (by simp only [nrm,xdn,reduceIte,Nat.reduceLT,Nat.reduceSub,Nat.reduceAdd,Int.toNat_natCast,e0,e1,e2,e3,e4,e5,e6,e7,e8,e9,e10,e11,e12,e13,e14,e15];exact pi102 hm hf h1) (by simp only [nrm,xdn,reduceIte,Nat.reduceLT,Nat.reduceSub,Nat.reduceAdd,Int.toNat_natCast,e0,e1,e2,e3,e4,e5,e6,e7,e8,e9,e10,e11,e12,e13,e14,e15,fn102]) ?_
  generalize bw m t.f=r at hq ⊢
  have hB:=lM ht hto (!r.1.done) r.1
  refine ae (fun h2=>?_) (fun h2=>?_)
  ·simp only [nrm,xdn,reduceIte,Nat.reduceLT,Nat.reduceSub,Nat.reduceAdd,Frm.cds,Mem.cds,lca] at h2
   refine ae (fun h3=>?_) (fun h3=>?_)
   ·simp only [nrm,xdn,reduceIte,Nat.reduceLT,Nat.reduceSub,Nat.reduceAdd,Frm.cds,Mem.cds,lca] at h3
    rw [if_pos ⟨h2,h3⟩] at hq
    have hC:=put_C ht hto (!r.1.done) r.1 (t.held ++ [r.1.slot])
    subst hq
    have ha : (aa t.held).rows ++ [[.i r.1.slot]]=(aa (t.held ++ [r.1.slot])).rows:=by simp [aa]
    refine af (by simp only [nrm,xdn,reduceIte,Nat.reduceLT,Nat.reduceSub,Nat.reduceAdd,Int.toNat_natCast,e0,e1,e2,e3,e4,e5,e6,e7,e8,e9,e10,e11,e12,e13,e14,e15,eo]) (af (by simp only [nrm,xdn,reduceIte,Nat.reduceLT,Nat.reduceSub,Nat.reduceAdd,Int.toNat_natCast,e0,e1,e2,e3,e4,e5,e6,e7,e8,e9,e10,e11,e12,e13,e14,e15,e15,es,aj];omega) (af ?_ (ag ?_)))
    ·simp only [nrm,xdn,reduceIte,Nat.reduceLT,Nat.reduceSub,Nat.reduceAdd,Int.toNat_natCast,e0,e1,e2,e3,e4,e5,e6,e7,e8,e9,e10,e11,e12,e13,e14,e15,es,CD.row,CD.aC,av,Frm.cds,Mem.cds,lca,List.headD_cons,ha]
     exact cls hC
    ·simp only [nrm,xdn,reduceIte,Nat.reduceLT,Nat.reduceSub,Nat.reduceAdd,Int.toNat_natCast,e0,e1,e2,e3,e4,e5,e6,e7,e8,e9,e10,e11,e12,e13,e14,e15,es,CD.row,CD.aC,av,Frm.cds,Mem.cds,lca,List.headD_cons,ha]
     rw [show ((ar us).rows.modify k _)=(ar _).rows from congrArg CD.rows hC,aD]
     rfl
   ·simp only [nrm,xdn,reduceIte,Nat.reduceLT,Nat.reduceSub,Nat.reduceAdd,Frm.cds,Mem.cds,lca] at h3
    rw [if_neg (fun x=>h3 x.2)] at hq
    subst hq
    refine af ?_ (ag ?_)
    ·simp only [nrm,xdn,reduceIte,Nat.reduceLT,Nat.reduceSub,Nat.reduceAdd,Int.toNat_natCast,CD.aC,av,Frm.cds,Mem.cds,lca]
     exact cls hB
    ·simp only [nrm,xdn,reduceIte,Nat.reduceLT,Nat.reduceSub,Nat.reduceAdd,Int.toNat_natCast,CD.aC,av,Frm.cds,Mem.cds,lca]
     rw [show ((ar us).rows.modify k _)=(ar _).rows from congrArg CD.rows hB,aD]
     rfl
  ·simp only [nrm,xdn,reduceIte,Nat.reduceLT,Nat.reduceSub,Nat.reduceAdd,Frm.cds,Mem.cds,lca] at h2
   rw [if_neg (fun x=>by rw [h2] at x;exact Bool.noConfusion x.1)] at hq
   subst hq
   refine af ?_ (ag ?_)
   ·simp only [nrm,xdn,reduceIte,Nat.reduceLT,Nat.reduceSub,Nat.reduceAdd,Int.toNat_natCast,CD.aC,av,Frm.cds,Mem.cds,lca]
    exact cls hB
   ·simp only [nrm,xdn,reduceIte,Nat.reduceLT,Nat.reduceSub,Nat.reduceAdd,Int.toNat_natCast,CD.aC,av,Frm.cds,Mem.cds,lca]
    rw [show ((ar us).rows.modify k _)=(ar _).rows from congrArg CD.rows hB,aD]
    rfl
 simp only [nrm,xdn,reduceIte,Nat.reduceLT,Nat.reduceSub,Nat.reduceAdd,Int.toNat_natCast,e1] at h1
 rw [if_neg h1] at hq
 refine ae (fun h2=>?_) (fun h2=>?_)
 ·simp only [nrm,xdn,reduceIte,Nat.reduceLT,Nat.reduceSub,Nat.reduceAdd,Int.toNat_natCast,e1] at h2
  rw [if_pos h2] at hq
  refine ah d108 ((cx m t.f k).2.cds ++ (cx m t.f k).1.cds) rfl (by simp only [nrm,xdn,reduceIte,Nat.reduceLT,Nat.reduceSub,Nat.reduceAdd,Int.toNat_natCast,e0,e1,e2,e3,e4,e5,e6,e7,e8,e9,e10,e11,e12,e13,e14,e15];exact pi108 hm hf h2 k) (by simp only [nrm,xdn,reduceIte,Nat.reduceLT,Nat.reduceSub,Nat.reduceAdd,Int.toNat_natCast,e0,e1,e2,e3,e4,e5,e6,e7,e8,e9,e10,e11,e12,e13,e14,e15,fn108]) ?_
  generalize cx m t.f k=r at hq ⊢
  have hB:=lM ht hto (!r.1.done) r.1
  subst hq
  refine af ?_ (ag ?_)
  ·simp only [nrm,xdn,reduceIte,Nat.reduceLT,Nat.reduceSub,Nat.reduceAdd,Int.toNat_natCast,CD.aC,av,Frm.cds,Mem.cds,lca]
   exact cls hB
  ·simp only [nrm,xdn,reduceIte,Nat.reduceLT,Nat.reduceSub,Nat.reduceAdd,Int.toNat_natCast,CD.aC,av,Frm.cds,Mem.cds,lca]
   rw [show ((ar us).rows.modify k _)=(ar _).rows from congrArg CD.rows hB,aD]
   rfl
 simp only [nrm,xdn,reduceIte,Nat.reduceLT,Nat.reduceSub,Nat.reduceAdd,Int.toNat_natCast,e1] at h2
 rw [if_neg h2] at hq
 refine ae (fun h3=>?_) (fun h3=>?_)
 ·simp only [nrm,xdn,reduceIte,Nat.reduceLT,Nat.reduceSub,Nat.reduceAdd,Int.toNat_natCast,e1] at h3
  rw [if_pos h3] at hq
  refine ah d105 ((bS m t.f k).2.cds ++ (bS m t.f k).1.cds) rfl (by simp only [nrm,xdn,reduceIte,Nat.reduceLT,Nat.reduceSub,Nat.reduceAdd,Int.toNat_natCast,e0,e1,e2,e3,e4,e5,e6,e7,e8,e9,e10,e11,e12,e13,e14,e15];exact pi105 hm hf h3 k) (by simp only [nrm,xdn,reduceIte,Nat.reduceLT,Nat.reduceSub,Nat.reduceAdd,Int.toNat_natCast,e0,e1,e2,e3,e4,e5,e6,e7,e8,e9,e10,e11,e12,e13,e14,e15,fn105]) ?_
  generalize bS m t.f k=r at hq ⊢
  have hB:=lM ht hto (!r.1.done) r.1
  subst hq
  refine af ?_ (ag ?_)
  ·simp only [nrm,xdn,reduceIte,Nat.reduceLT,Nat.reduceSub,Nat.reduceAdd,Int.toNat_natCast,CD.aC,av,Frm.cds,Mem.cds,lca]
   exact cls hB
  ·simp only [nrm,xdn,reduceIte,Nat.reduceLT,Nat.reduceSub,Nat.reduceAdd,Int.toNat_natCast,CD.aC,av,Frm.cds,Mem.cds,lca]
   rw [show ((ar us).rows.modify k _)=(ar _).rows from congrArg CD.rows hB,aD]
   rfl
 simp only [nrm,xdn,reduceIte,Nat.reduceLT,Nat.reduceSub,Nat.reduceAdd,Int.toNat_natCast,e1] at h3
 rw [if_neg h3] at hq
 refine ae (fun h4=>?_) (fun h4=>?_)
 rotate_left
 ·simp only [nrm,xdn,reduceIte,Nat.reduceLT,Nat.reduceSub,Nat.reduceAdd,Int.toNat_natCast,e1] at h4
  have h45 : t.f.c.kind=4∨t.f.c.kind=5:=by
   have:=hf.call
   unfold bg at this
   refine Classical.byContradiction fun hn=>?_
   rw [if_neg (by omega),if_neg h2,if_neg hn,if_neg h4] at this
   cases this
  rw [if_pos h45] at hq
  refine ah d111 ((bB m t.f k).2.cds ++ (bB m t.f k).1.cds) rfl (by simp only [nrm,xdn,reduceIte,Nat.reduceLT,Nat.reduceSub,Nat.reduceAdd,Int.toNat_natCast,e0,e1,e2,e3,e4,e5,e6,e7,e8,e9,e10,e11,e12,e13,e14,e15];exact pi111 hm hf h45 k) (by simp only [nrm,xdn,reduceIte,Nat.reduceLT,Nat.reduceSub,Nat.reduceAdd,Int.toNat_natCast,e0,e1,e2,e3,e4,e5,e6,e7,e8,e9,e10,e11,e12,e13,e14,e15,fn111]) ?_
  generalize bB m t.f k=r at hq ⊢
  have hB:=lM ht hto (!r.1.done) r.1
  subst hq
  refine af ?_ (ag ?_)
  ·simp only [nrm,xdn,reduceIte,Nat.reduceLT,Nat.reduceSub,Nat.reduceAdd,Int.toNat_natCast,CD.aC,av,Frm.cds,Mem.cds,lca]
   exact cls hB
  ·simp only [nrm,xdn,reduceIte,Nat.reduceLT,Nat.reduceSub,Nat.reduceAdd,Int.toNat_natCast,CD.aC,av,Frm.cds,Mem.cds,lca]
   rw [show ((ar us).rows.modify k _)=(ar _).rows from congrArg CD.rows hB,aD]
   rfl
 simp only [nrm,xdn,reduceIte,Nat.reduceLT,Nat.reduceSub,Nat.reduceAdd,Int.toNat_natCast,e1] at h4
 rw [if_neg (fun y=>by omega)] at hq
 have hs : 0≤t.f.c.slot∧t.f.c.slot < m.slots.length:=by
  have:=hf.call
  unfold bg at this
  rw [if_neg (by omega),if_neg (by omega),if_neg (by omega),if_pos h4] at this
  split at this
  ·cases this
  ·omega
 have hr:=hm.refs hs.1 hs.2
 have hnf:=hm.nf
 have hG:=put_G ht false (aF t.f 0)
 simp only [aF] at hG
 have hL : aA (us.modify k fun u=>{ busy:=false,f:=⟨t.f.c,t.f.pc,t.f.cur,t.f.prev,t.f.slot,t.f.n,t.f.keys,true,0⟩,held:=u.held,own:=false})=aA (us.modify k fun u=>{ u with busy:=false,f:=aF t.f 0}):=rJ k (fun u=>{ u with busy:=false,f:=aF t.f 0}) us
 have hH:=put_H ht
 refine af (by simp only [nrm,xdn,reduceIte,Nat.reduceLT,Nat.reduceSub,Nat.reduceAdd,Int.toNat_natCast,e0,e1,e2,e3,e4,e5,e6,e7,e8,e9,e10,e11,e12,e13,e14,e15,eo]) (af (by simp only [nrm,xdn,reduceIte,Nat.reduceLT,Nat.reduceSub,Nat.reduceAdd,Int.toNat_natCast,e0,e1,e2,e3,e4,e5,e6,e7,e8,e9,e10,e11,e12,e13,e14,e15,es];exact cls hH) ?_)
 refine bD (fun ds=>∃ i : Nat,ds=[aa t.held,.i i]∧i≤t.held.length∧indexOf t.f.c.slot t.held 0=indexOf t.f.c.slot (t.held.drop i) i) (fun ds=>t.held.length - (ds.getD 1 .u).int.toNat) ⟨0,?_,by omega,rfl⟩ ?_
 ·simp only [nrm,xdn,reduceIte,Nat.reduceLT,Nat.reduceSub,Nat.reduceAdd,Int.toNat_natCast,e0,e1,e2,e3,e4,e5,e6,e7,e8,e9,e10,e11,e12,e13,e14,e15,es];rfl
 rintro ds - ⟨i,rfl,hi,he⟩
 refine ae (fun hlt=>?_) (fun hge=>?_)
 ·simp only [nrm,xdn,reduceIte,Nat.reduceLT,Nat.reduceSub,Nat.reduceAdd,Int.toNat_natCast,e0,e1,e2,e3,e4,e5,e6,e7,e8,e9,e10,e11,e12,e13,e14,e15,es,aj] at hlt
  rw [l7 (by omega)] at he
  have ec : ((aa t.held).rows.getD i []).getD 0 .u=.i (t.held.getD i default):=cL (by omega)
  refine af (by simp only [nrm,xdn,reduceIte,Nat.reduceLT,Nat.reduceSub,Nat.reduceAdd,Int.toNat_natCast,e0,e1,e2,e3,e4,e5,e6,e7,e8,e9,e10,e11,e12,e13,e14,e15];omega) (af (by simp only [nrm,xdn,reduceIte,Nat.reduceLT,Nat.reduceSub,Nat.reduceAdd,Int.toNat_natCast,e0,e1,e2,e3,e4,e5,e6,e7,e8,e9,e10,e11,e12,e13,e14,e15,aj];omega) (ae (fun h5=>?_) (fun h5=>?_)))
  ·simp only [nrm,xdn,reduceIte,Nat.reduceLT,Nat.reduceSub,Nat.reduceAdd,Int.toNat_natCast,e0,e1,e2,e3,e4,e5,e6,e7,e8,e9,e10,e11,e12,e13,e14,e15,ec] at h5
   rw [if_pos h5.symm] at he
   have hC:=put_D ht hto false (aF t.f 0) (t.held.take i ++ t.held.drop (i + 1))
   simp only [aF] at hC
   have ha : [] ++ (aa t.held).rows.take i ++ (aa t.held).rows.drop (i + 1)=(aa (t.held.take i ++ t.held.drop (i + 1))).rows:=by simp only [aa,CD.aC,List.map_append,List.map_take,List.map_drop,List.nil_append]
   have hp : (i + 1 : Int).toNat=i + 1:=by omega
   refine ah d68 (put m t.f.c.slot).cds rfl ?_ ?_ ?_
   ·simp only [nrm,xdn,reduceIte,Nat.reduceLT,Nat.reduceSub,Nat.reduceAdd,Int.toNat_natCast,e0,e1,e2,e3,e4,e5,e6,e7,e8,e9,e10,e11,e12,e13,e14,e15,ec,h5,d68,mem_of,aq];exact ⟨hs.1,hs.2,hr.1,hr.2,by omega⟩
   ·simp only [nrm,xdn,reduceIte,Nat.reduceLT,Nat.reduceSub,Nat.reduceAdd,Int.toNat_natCast,e0,e1,e2,e3,e4,e5,e6,e7,e8,e9,e10,e11,e12,e13,e14,e15,ec,h5,d68,mem_of,aq]
   rw [he,if_pos (by omega),hp,Int.toNat_natCast] at hq
   generalize put m t.f.c.slot=q at hq ⊢
   subst hq
   refine aH (by simp only [nrm,xdn,reduceIte,Nat.reduceLT,Nat.reduceSub,Nat.reduceAdd,Int.toNat_natCast,e0,e1,e2,e3,e4,e5,e6,e7,e8,e9,e10,e11,e12,e13,e14,e15];omega) (af (by simp only [nrm,xdn,reduceIte,Nat.reduceLT,Nat.reduceSub,Nat.reduceAdd,Int.toNat_natCast,e0,e1,e2,e3,e4,e5,e6,e7,e8,e9,e10,e11,e12,e13,e14,e15,es,eL]) (af (by simp only [nrm,xdn,reduceIte,Nat.reduceLT,Nat.reduceSub,Nat.reduceAdd,Int.toNat_natCast,e0,e1,e2,e3,e4,e5,e6,e7,e8,e9,e10,e11,e12,e13,e14,e15,es,aj];omega) (af (by simp only [nrm,xdn,reduceIte,Nat.reduceLT,Nat.reduceSub,Nat.reduceAdd,Int.toNat_natCast,e0,e1,e2,e3,e4,e5,e6,e7,e8,e9,e10,e11,e12,e13,e14,e15];omega) (af (by simp only [nrm,xdn,reduceIte,Nat.reduceLT,Nat.reduceSub,Nat.reduceAdd,Int.toNat_natCast,e0,e1,e2,e3,e4,e5,e6,e7,e8,e9,e10,e11,e12,e13,e14,e15,es,aj];omega) (af (by simp only [nrm,xdn,reduceIte,Nat.reduceLT,Nat.reduceSub,Nat.reduceAdd,Int.toNat_natCast,e0,e1,e2,e3,e4,e5,e6,e7,e8,e9,e10,e11,e12,e13,e14,e15,es,aj,List.length_take];omega) (af (by simp only [nrm,xdn,reduceIte,Nat.reduceLT,Nat.reduceSub,Nat.reduceAdd,Int.toNat_natCast,e0,e1,e2,e3,e4,e5,e6,e7,e8,e9,e10,e11,e12,e13,e14,e15,es,aj,List.length_take,List.length_drop,hp];omega) (af ?_ (ag ?_))))))))
   ·simp only [nrm,xdn,reduceIte,Nat.reduceLT,Nat.reduceSub,Nat.reduceAdd,Int.toNat_natCast,e0,e1,e2,e3,e4,e5,e6,e7,e8,e9,e10,e11,e12,e13,e14,e15,es,CD.aC,av,hp,ha]
    exact cls hC
   ·simp only [nrm,xdn,reduceIte,Nat.reduceLT,Nat.reduceSub,Nat.reduceAdd,Int.toNat_natCast,e0,e1,e2,e3,e4,e5,e6,e7,e8,e9,e10,e11,e12,e13,e14,e15,es,CD.aC,av,hp,ha]
    rw [show ((ar us).rows.modify k _)=(ar _).rows from congrArg CD.rows hC,aD]
    rfl
  ·simp only [nrm,xdn,reduceIte,Nat.reduceLT,Nat.reduceSub,Nat.reduceAdd,Int.toNat_natCast,e0,e1,e2,e3,e4,e5,e6,e7,e8,e9,e10,e11,e12,e13,e14,e15,ec] at h5
   rw [if_neg (fun y=>h5 y.symm)] at he
   refine aH (by simp only [nrm,xdn,reduceIte,Nat.reduceLT,Nat.reduceSub,Nat.reduceAdd,Int.toNat_natCast,e0,e1,e2,e3,e4,e5,e6,e7,e8,e9,e10,e11,e12,e13,e14,e15];omega) (bx ⟨⟨i + 1,?_,by omega,he⟩,?_⟩)
   ·simp only [nrm,xdn,reduceIte,Nat.reduceLT,Nat.reduceSub,Nat.reduceAdd,Int.toNat_natCast,e0,e1,e2,e3,e4,e5,e6,e7,e8,e9,e10,e11,e12,e13,e14,e15];rfl
   ·simp only [nrm,xdn,reduceIte,Nat.reduceLT,Nat.reduceSub,Nat.reduceAdd,Int.toNat_natCast,e0,e1,e2,e3,e4,e5,e6,e7,e8,e9,e10,e11,e12,e13,e14,e15];omega
 ·simp only [nrm,xdn,reduceIte,Nat.reduceLT,Nat.reduceSub,Nat.reduceAdd,Int.toNat_natCast,e0,e1,e2,e3,e4,e5,e6,e7,e8,e9,e10,e11,e12,e13,e14,e15,es,aj] at hge
  rw [q6 (by omega)] at he
  rw [he,if_neg (by omega)] at hq
  subst hq
  refine af ?_ (ag ?_)
  ·simp only [nrm,xdn,reduceIte,Nat.reduceLT,Nat.reduceSub,Nat.reduceAdd,Int.toNat_natCast,e0,e1,e2,e3,e4,e5,e6,e7,e8,e9,e10,e11,e12,e13,e14,e15,es,CD.aC,av]
   exact cls hG
  ·simp only [nrm,xdn,reduceIte,Nat.reduceLT,Nat.reduceSub,Nat.reduceAdd,Int.toNat_natCast,e0,e1,e2,e3,e4,e5,e6,e7,e8,e9,e10,e11,e12,e13,e14,e15,es,CD.aC,av]
   rw [show ((ar us).rows.modify k _)=(ar _).rows from congrArg CD.rows hG,aD,hL]
   rfl
end Go.Proofs.Ytpmamacjepcdmaa
