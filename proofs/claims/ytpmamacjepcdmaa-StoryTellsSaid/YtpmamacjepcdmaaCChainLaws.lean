import Derived.Test.YtpmamacjepcdmaaCLook
import Derived.Test.YtpmamacjepcdmaaCChain4
namespace Go.Proofs.Ytpmamacjepcdmaa
open Go Go.Sy Go.RowKit
set_option linter.unusedSimpArgs false
set_option linter.unusedVariables false
def s102 : Sig:=⟨[.ptr [.own 52 kS,.own 3 kI,.own 3 kI,.own 3 kI,.int .i64],.agg [.int .i64,.int .i64,.int .i64,.int .i64,.int .i64,.int .i64,.int .i64,.int .i64,.int .i64,.int .i64,.int .i64,.fz kK,.bool,.int .i64]],[.agg [.int .i64,.int .i64,.int .i64,.int .i64,.int .i64,.int .i64,.int .i64,.int .i64,.int .i64,.int .i64,.int .i64,.fz kK,.bool,.int .i64]]⟩
def d102 : DC:=⟨s102,fun l=>aO (Mem.of l)∧bL (Mem.of l) (Frm.of (l.drop 5))∧(Frm.of (l.drop 5)).c.kind=1,fun l=>(bw (Mem.of l) (Frm.of (l.drop 5))).2.cds ++ (bw (Mem.of l) (Frm.of (l.drop 5))).1.cds⟩
theorem fn102 (m : Mem) (f : Frm) : d102.fn [ai m.slots,aa m.heads,aa m.free,aa m.locks,.i m.now,.i f.c.kind,.i f.c.k.a,.i f.c.k.b,.i f.c.time,.i f.c.bucket,.i f.c.slot,.i f.pc,.i f.cur,.i f.prev,.i f.slot,.i f.n,ba f.keys,.b f.done,.i f.e]=(bw m f).2.cds ++ (bw m f).1.cds:=by
 simp only [d102,mem_of,aq,List.drop_succ_cons,List.drop_zero,bQ]
theorem pi102 {m : Mem} {f : Frm} (hm : aO m) (hf : bL m f) (hk : f.c.kind=1) : d102.pre [ai m.slots,aa m.heads,aa m.free,aa m.locks,.i m.now,.i f.c.kind,.i f.c.k.a,.i f.c.k.b,.i f.c.time,.i f.c.bucket,.i f.c.slot,.i f.pc,.i f.cur,.i f.prev,.i f.slot,.i f.n,ba f.keys,.b f.done,.i f.e]:=by
 simp only [d102,mem_of,aq,List.drop_succ_cons,List.drop_zero,bQ]
 exact ⟨hm,hf,hk⟩
def l102 : List (Nat × Ct):=[(49,d49.ct),(67,d67.ct),(68,d68.ct)]
noncomputable def z102 : Cx:={ T:=ttA,C:=sigs l102,F:=[(182,Try.f182),(183,Try.f183),(184,Try.f184)],hints:=[],sig:=s102}
def t102 : Tree :=
 (.call 49 [.var 0,.var 1,.var 2,.var 3,.var 4,.var 5,.var 6,.var 7,.var 8,.var 9,.var 10] 19
 (.ite (.eq (.var 11) (.int 0))
 (.need (.le (.int 0) (.var 19))
 (.need (.lt (.var 19) (.len (.var 1)))
 (.ret [.var 0,.var 1,.var 2,.var 3,.var 4,.var 5,.var 6,.var 7,.var 8,.var 9,.var 10,.int 1,.cell (.var 1) (.var 19) 0,.var 13,.var 14,.var 15,.var 16,.var 17,.var 18])))
 (.ite (.eq (.var 11) (.int 1))
 (.ite (.lt (.int 0) (.var 12))
 (.need (.fit (.sub (.var 12) (.int 1)))
 (.need (.le (.int 0) (.sub (.var 12) (.int 1)))
 (.need (.lt (.sub (.var 12) (.int 1)) (.len (.var 0)))
 (.ite (.and (.eq (.cell (.var 0) (.sub (.var 12) (.int 1)) 1) (.var 6)) (.and (.eq (.cell (.var 0) (.sub (.var 12) (.int 1)) 2) (.var 7)) (.bool true)))
 (.ret [.var 0,.var 1,.var 2,.var 3,.var 4,.var 5,.var 6,.var 7,.var 8,.var 9,.var 10,.int 3,.var 12,.var 13,.var 14,.var 15,.var 16,.var 17,.var 18])
 (.ret [.var 0,.var 1,.var 2,.var 3,.var 4,.var 5,.var 6,.var 7,.var 8,.var 9,.var 10,.int 2,.var 12,.var 13,.var 14,.var 15,.var 16,.var 17,.var 18])))))
 (.need (.fit (.add (.var 19) (.int 1)))
 (.need (.fit (.sub (.int 0) (.add (.var 19) (.int 1))))
 (.ite (.eq (.var 12) (.sub (.int 0) (.add (.var 19) (.int 1))))
 (.ret [.var 0,.var 1,.var 2,.var 3,.var 4,.var 5,.var 6,.var 7,.var 8,.var 9,.var 10,.var 11,.var 12,.var 13,.var 14,.var 15,.var 16,.bool true,.int 5])
 (.ret [.var 0,.var 1,.var 2,.var 3,.var 4,.var 5,.var 6,.var 7,.var 8,.var 9,.var 10,.int 0,.var 12,.var 13,.var 14,.var 15,.var 16,.var 17,.var 18])))))
 (.ite (.eq (.var 11) (.int 2))
 (.ite (.lt (.int 0) (.var 12))
 (.need (.fit (.sub (.var 12) (.int 1)))
 (.need (.le (.int 0) (.sub (.var 12) (.int 1)))
 (.need (.lt (.sub (.var 12) (.int 1)) (.len (.var 0)))
 (.ret [.var 0,.var 1,.var 2,.var 3,.var 4,.var 5,.var 6,.var 7,.var 8,.var 9,.var 10,.int 1,.cell (.var 0) (.sub (.var 12) (.int 1)) 5,.var 13,.var 14,.var 15,.var 16,.var 17,.var 18]))))
 (.ret [.var 0,.var 1,.var 2,.var 3,.var 4,.var 5,.var 6,.var 7,.var 8,.var 9,.var 10,.int 0,.var 12,.var 13,.var 14,.var 15,.var 16,.var 17,.var 18]))
 (.ite (.eq (.var 11) (.int 3))
 (.ite (.lt (.int 0) (.var 12))
 (.need (.fit (.sub (.var 12) (.int 1)))
 (.call 67 [.var 0,.var 1,.var 2,.var 3,.var 4,.sub (.var 12) (.int 1)] 20
 (.ite (.not (.var 25))
 (.ret [.var 20,.var 21,.var 22,.var 23,.var 24,.var 5,.var 6,.var 7,.var 8,.var 9,.var 10,.int 0,.var 12,.var 13,.var 14,.var 15,.var 16,.var 17,.var 18])
 (.ret [.var 20,.var 21,.var 22,.var 23,.var 24,.var 5,.var 6,.var 7,.var 8,.var 9,.var 10,.int 4,.var 12,.var 13,.sub (.var 12) (.int 1),.var 15,.var 16,.var 17,.var 18]))))
 (.ret [.var 0,.var 1,.var 2,.var 3,.var 4,.var 5,.var 6,.var 7,.var 8,.var 9,.var 10,.int 0,.var 12,.var 13,.var 14,.var 15,.var 16,.var 17,.var 18]))
 (.ite (.eq (.var 11) (.int 4))
 (.ite (.le (.int 0) (.var 14))
 (.need (.lt (.var 14) (.len (.var 0)))
 (.ite (.not (.cell (.var 0) (.var 14) 4))
 (.ret [.var 0,.var 1,.var 2,.var 3,.var 4,.var 5,.var 6,.var 7,.var 8,.var 9,.var 10,.int 5,.var 12,.var 13,.var 14,.var 15,.var 16,.var 17,.var 18])
 (.ite (.not (.and (.eq (.cell (.var 0) (.var 14) 1) (.var 6)) (.and (.eq (.cell (.var 0) (.var 14) 2) (.var 7)) (.bool true))))
 (.ret [.var 0,.var 1,.var 2,.var 3,.var 4,.var 5,.var 6,.var 7,.var 8,.var 9,.var 10,.int 5,.var 12,.var 13,.var 14,.var 15,.var 16,.var 17,.var 18])
 (.ite (.lt (.var 4) (.cell (.var 0) (.var 14) 3))
 (.ret [.var 0,.var 1,.var 2,.var 3,.var 4,.var 5,.var 6,.var 7,.var 8,.var 9,.var 10,.var 11,.var 12,.var 13,.var 14,.var 15,.var 16,.bool true,.int 0])
 (.ret [.var 0,.var 1,.var 2,.var 3,.var 4,.var 5,.var 6,.var 7,.var 8,.var 9,.var 10,.int 6,.var 12,.var 13,.var 14,.var 15,.var 16,.var 17,.var 18])))))
 (.ret [.var 0,.var 1,.var 2,.var 3,.var 4,.var 5,.var 6,.var 7,.var 8,.var 9,.var 10,.int 0,.var 12,.var 13,.var 14,.var 15,.var 16,.var 17,.var 18]))
 (.ite (.eq (.var 11) (.int 5))
 (.ite (.le (.int 0) (.var 14))
 (.call 68 [.var 0,.var 1,.var 2,.var 3,.var 4,.var 14] 20
 (.ret [.var 20,.var 21,.var 22,.var 23,.var 24,.var 5,.var 6,.var 7,.var 8,.var 9,.var 10,.int 0,.var 12,.var 13,.int (-1),.var 15,.var 16,.var 17,.var 18]))
 (.ret [.var 0,.var 1,.var 2,.var 3,.var 4,.var 5,.var 6,.var 7,.var 8,.var 9,.var 10,.int 0,.var 12,.var 13,.var 14,.var 15,.var 16,.var 17,.var 18]))
 (.ite (.eq (.var 11) (.int 6))
 (.ite (.le (.int 0) (.var 14))
 (.call 68 [.var 0,.var 1,.var 2,.var 3,.var 4,.var 14] 20
 (.ret [.var 20,.var 21,.var 22,.var 23,.var 24,.var 5,.var 6,.var 7,.var 8,.var 9,.var 10,.var 11,.var 12,.var 13,.int (-1),.var 15,.var 16,.bool true,.int 5]))
 (.ret [.var 0,.var 1,.var 2,.var 3,.var 4,.var 5,.var 6,.var 7,.var 8,.var 9,.var 10,.int 0,.var 12,.var 13,.var 14,.var 15,.var 16,.var 17,.var 18]))
 (.ret [.var 0,.var 1,.var 2,.var 3,.var 4,.var 5,.var 6,.var 7,.var 8,.var 9,.var 10,.int 0,.var 12,.var 13,.var 14,.var 15,.var 16,.var 17,.var 18])))))))))
theorem run102 : run z102 6000 [.code (Try.f102.body.getD .skip),.fin (aP z102 Try.f102.results.toList 50)] { fn:=102,tmps:=z102.sig.aE ++ List.replicate (Try.f102.ntmps - z102.sig.aE.length) (.v (.one .undef)),stk:=[],h:=z102.sig.h0,nx:=z102.sig.ins.length,known:=[]}=t102:=by kernel_rfl
set_option maxHeartbeats 16000000 in
theorem ok102 : bJ Try.prog 102 d102.ct:=by
 refine ax (d:=d102) (Z:=z102) (Γ:=gam l102) (fn:=Try.f102) (c:=Try.f102.body.getD .skip) (aJ tok mixed (all_cons ok49 (all_cons ok67 (all_cons ok68 all_nil))) (cv (c:=Try.f182.body.getD .skip) Try.func182 (by kernel_rfl) (by kernel_rfl) (cv (c:=Try.f183.body.getD .skip) Try.func183 (by kernel_rfl) (by kernel_rfl) (cv (c:=Try.f184.body.getD .skip) Try.func184 (by kernel_rfl) (by kernel_rfl) aK)))) Try.func102 (by kernel_rfl) (by kernel_rfl) rfl run102 fun E hk hp=>?_
 obtain ⟨hk0,hk1,hk2,hk3,hk4,hk5,hk6,hk7,hk8,hk9,hk10,hk11,hk12,hk13,hk14,hk15,hk16,hk17,hk18,_⟩:=hk
 obtain ⟨m,e0,e1,e2,e3,e4,b0,b1,b2,b3⟩:=bp (d0:=E 0) (d1:=E 1) (d2:=E 2) (d3:=E 3) (d4:=E 4) hk0 hk1 hk2 hk3 hk4
 obtain ⟨f,e5,e6,e7,e8,e9,e10,e11,e12,e13,e14,e15,e16,e17,e18,b16⟩:=c9 (d0:=E 5) (d1:=E 6) (d2:=E 7) (d3:=E 8) (d4:=E 9) (d5:=E 10) (d6:=E 11) (d7:=E 12) (d8:=E 13) (d9:=E 14) (d10:=E 15) (d11:=E 16) (d12:=E 17) (d13:=E 18) hk5 hk6 hk7 hk8 hk9 hk10 hk11 hk12 hk13 hk14 hk15 hk16 hk17 hk18
 have el : aG E d102.sig.ins.length=[ai m.slots,aa m.heads,aa m.free,aa m.locks,.i m.now,.i f.c.kind,.i f.c.k.a,.i f.c.k.b,.i f.c.time,.i f.c.bucket,.i f.c.slot,.i f.pc,.i f.cur,.i f.prev,.i f.slot,.i f.n,ba f.keys,.b f.done,.i f.e]:=by
  show [E 0,E 1,E 2,E 3,E 4,E 5,E 6,E 7,E 8,E 9,E 10,E 11,E 12,E 13,E 14,E 15,E 16,E 17,E 18]=_
  rw [e0,e1,e2,e3,e4,e5,e6,e7,e8,e9,e10,e11,e12,e13,e14,e15,e16,e17,e18]
 rw [el] at hp
 rw [el]
 rw [Env.aU el]
 clear el e0 e1 e2 e3 e4 e5 e6 e7 e8 e9 e10 e11 e12 e13 e14 e15 e16 e17 e18
 rw [fn102]
 simp only [d102,mem_of,aq,List.drop_succ_cons,List.drop_zero,bQ] at hp
 obtain ⟨hm,hf,hk⟩ : aO m∧bL m f∧f.c.kind=1:=hp
 have hb:=bl hm hf.call (by omega)
 have gs:=hm.ns
 have g4:=hm.nh4
 have eH : ((aa m.heads).rows.getD (ay m f.c).toNat []).getD 0 .u=.i (cV m (ay m f.c)):=cL (by omega)
 obtain ⟨f1,f2,f3,f4,f5,f6,f7,f8,f9,f10,f11,f12,f13⟩:=id hf
 have eN : 0 < f.cur→((ai m.slots).rows.getD (f.cur - 1).toNat []).getD 5 .u=.i (at1 m f).next:=fun _=>fI (by omega)
 have eK1 : 0 < f.cur→((ai m.slots).rows.getD (f.cur - 1).toNat []).getD 1 .u=.i (at1 m f).k.a:=fun _=>gl (by omega)
 have eK2 : 0 < f.cur→((ai m.slots).rows.getD (f.cur - 1).toNat []).getD 2 .u=.i (at1 m f).k.b:=fun _=>gk (by omega)
 have a1 : m.slots.getD (f.cur - 1).toNat default=at1 m f:=rfl
 have a2 : m.slots.getD f.slot.toNat default=at2 m f:=rfl
 unfold t102
 repeat'
  show Tree.den _ _ _ _ _
  first
   | (with_reducible refine ae (b:=.not (.var _)) (fun hx=>?_) (fun hx=>?_)) <;> simp only [nrm,xdn,reduceIte,Nat.reduceLT,Nat.reduceSub,Nat.reduceAdd,bf,bd,aX,bc,aY,au,a1,a2,aN,Mem.cds,lca,Bool.not_eq_true',Bool.not_eq_false'] at hx
   | (with_reducible refine ae (b:=.not (.cell _ _ _)) (fun hc=>?_) (fun hc=>?_)) <;> simp only [nrm,xdn,reduceIte,Nat.reduceLT,Nat.reduceSub,Nat.reduceAdd,bf,bd,aX,bc,aY,au,a1,a2,aN,Mem.cds,lca,Bool.not_eq_true',Bool.not_eq_false'] at hc
   | (with_reducible refine ae (fun h=>?_) (fun h=>?_)) <;> simp only [nrm,xdn,reduceIte,Nat.reduceLT,Nat.reduceSub,Nat.reduceAdd,bf,bd,aX,bc,aY,au,a1,a2,aN,Mem.cds,lca,Bool.not_eq_true',Bool.not_eq_false'] at h <;> try first | replace h:=nm h | replace h:=np h
   | (with_reducible refine cm ?_ ?_;· simp only [nrm,xdn,reduceIte,Nat.reduceLT,Nat.reduceSub,Nat.reduceAdd,aw,aj,aN,bf,bd,aX,bc,aY,au,a1,a2];omega)
   | (with_reducible refine ft ?_ ?_;· simp only [nrm,xdn,reduceIte,Nat.reduceLT,Nat.reduceSub,Nat.reduceAdd,aw,aj,aN,bf,bd,aX,bc,aY,au,a1,a2];omega)
   | (with_reducible refine aH ?_ ?_;· simp only [nrm,xdn,reduceIte,Nat.reduceLT,Nat.reduceSub,Nat.reduceAdd,aw,aj,aN,bf,bd,aX,bc,aY,au,a1,a2];omega)
   | with_reducible refine ag ?_
   | refine ah d49 [.i (ay m f.c)] rfl trivial (by simp only [nrm,xdn,reduceIte,Nat.reduceLT,Nat.reduceSub,Nat.reduceAdd,fn49]) ?_
   | refine ah d67 ((hold m (f.cur - 1)).1.cds ++ [.b (hold m (f.cur - 1)).2]) rfl (by simp only [nrm,xdn,reduceIte,Nat.reduceLT,Nat.reduceSub,Nat.reduceAdd];exact pi67 hm (by omega) (by omega)) (by simp only [nrm,xdn,reduceIte,Nat.reduceLT,Nat.reduceSub,Nat.reduceAdd,fn67]) ?_
   | refine ah d68 (put m f.slot).cds rfl (by simp only [nrm,xdn,reduceIte,Nat.reduceLT,Nat.reduceSub,Nat.reduceAdd];exact pi68 hm (by omega) (by omega)) (by simp only [nrm,xdn,reduceIte,Nat.reduceLT,Nat.reduceSub,Nat.reduceAdd,fn68]) ?_
 all_goals first | (exfalso;omega) | skip
 all_goals unfold bw
 all_goals repeat (first | rw [if_neg (by omega)] | rw [if_pos (by omega)] | rw [if_pos (by assumption)] | rw [if_neg (by assumption)] | rw [if_neg (ne_true_of_eq_false (by assumption))] | rw [if_pos (Or.inl (by assumption))] | rw [if_pos (Or.inr (by assumption))] | rw [if_neg (fun y=>Or.elim y (fun z=>z (by assumption)) (fun z=>Bool.false_ne_true (z.symm.trans (by assumption))))])
 all_goals try rw [gF hx]
 all_goals try rw [gD hx]
 all_goals try simp only [nrm,xdn,reduceIte,Nat.reduceLT,Nat.reduceSub,Nat.reduceAdd,Mem.cds,Frm.cds,aF,lca,CD.row,List.headD_cons,eH,bt,Bool.false_eq_true,Bool.true_eq_false]
 all_goals try simp only [nrm,xdn,reduceIte,Nat.reduceLT,Nat.reduceSub,Nat.reduceAdd,Mem.cds,Frm.cds,aF,lca,CD.row,List.headD_cons,eH,bt,Bool.false_eq_true,Bool.true_eq_false,hx]
 all_goals try simp only [nrm,xdn,reduceIte,Nat.reduceLT,Nat.reduceSub,Nat.reduceAdd,Mem.cds,Frm.cds,aF,lca,CD.row,List.headD_cons,eH,bt,Bool.false_eq_true,Bool.true_eq_false,hc]
 all_goals try simp only [nrm,xdn,reduceIte,Nat.reduceLT,Nat.reduceSub,Nat.reduceAdd,Mem.cds,Frm.cds,aF,lca,CD.row,List.headD_cons,eH,bt,Bool.false_eq_true,Bool.true_eq_false,ht]
 all_goals try simp only [nrm,xdn,reduceIte,Nat.reduceLT,Nat.reduceSub,Nat.reduceAdd,Mem.cds,Frm.cds,aF,lca,CD.row,List.headD_cons,eH,bt,Bool.false_eq_true,Bool.true_eq_false,eN (by omega),eK1 (by omega),eK2 (by omega)]
 all_goals first | (have e14 : f.slot=-1:=(by omega);simp only [e14];done) | (have e15 : f.n=1000000:=(by omega);simp only [e15];done)
end Go.Proofs.Ytpmamacjepcdmaa

namespace Go.Proofs.Ytpmamacjepcdmaa
open Go Go.Sy Go.RowKit
set_option linter.unusedSimpArgs false
set_option linter.unusedVariables false
def kys (m : Mem) (a : Int) : Key:=(msl m a.toNat).k
structure InOk (m : Mem) (b : Int) (a : Int) : Prop where
 refs : (msl m a.toNat).refs≠0
 inn : (msl m a.toNat).inn=true
 bk : bk m (kys m a)=b
structure oa (m : Mem) (b : Nat) (l : List Int) : Prop where
 of : dY m b=some l
 ok : ∀ a∈l,InOk m b a
 nd : (l.map (kys m)).Nodup
structure tf (m : Mem) : Prop where
 mem : cr m
 all : ∀ b : Nat,b < m.heads.length→∃ l,oa m b l
theorem oa.r {m : Mem} {b : Nat} {l : List Int} (h : oa m b l) : (cw m b).1=l:=by unfold cw;rw [h.of]
def chL (m : Mem) (b : Nat) : List Int:=(cw m b).1
theorem tf.ch {m : Mem} (h : tf m) {b : Nat} (hb : b < m.heads.length) : oa m b (chL m b):=by
 obtain ⟨l,hl⟩:=h.all b hb
 have:=hl.r
 unfold chL
 rw [this];exact hl
def s87 : Sig:=⟨[.ptr [.own 52 kS,.own 3 kI,.own 3 kI,.own 3 kI,.int .i64],.one (.int .i64),.one (.int .i64)],[]⟩
def d87 : DC:=⟨s87,fun l=>0≤(l.getD 5 .u).int∧(l.getD 5 .u).int < (Mem.of l).slots.length∧0≤(l.getD 6 .u).int∧(l.getD 6 .u).int < (Mem.of l).heads.length,fun l=>(link (Mem.of l) (l.getD 5 .u).int (l.getD 6 .u).int).cds⟩
theorem fn87 (m : Mem) (a b : Int) : d87.fn [ai m.slots,aa m.heads,aa m.free,aa m.locks,.i m.now,.i a,.i b]=(link m a b).cds:=by simp only [d87,mem_of,aq,List.getD_cons_zero,List.getD_cons_succ,CD.aL]
theorem pre87 {m : Mem} {a b : Int} (h1 : 0≤a) (h2 : a < m.slots.length) (h3 : 0≤b) (h4 : b < m.heads.length) : d87.pre [ai m.slots,aa m.heads,aa m.free,aa m.locks,.i m.now,.i a,.i b]:=by
 simp only [d87,mem_of,aq,List.getD_cons_zero,List.getD_cons_succ,CD.aL]
 exact ⟨h1,h2,h3,h4⟩
def l87 : List (Nat × Ct):=[]
def z87 : Cx:={ T:=ttA,C:=sigs l87,F:=[],hints:=[],sig:=s87}
def t87 : Tree :=
 (.need (.le (.int 0) (.var 5))
 (.need (.lt (.var 5) (.len (.var 0)))
 (.need (.le (.int 0) (.var 6))
 (.need (.lt (.var 6) (.len (.var 1)))
 (.need (.fit (.add (.var 5) (.int 1)))
 (.ret [.set (.set (.set (.set (.set (.set (.var 0) (.var 5) 0 (.cell (.var 0) (.var 5) 0)) (.var 5) 1 (.cell (.var 0) (.var 5) 1)) (.var 5) 2 (.cell (.var 0) (.var 5) 2)) (.var 5) 3 (.cell (.var 0) (.var 5) 3)) (.var 5) 4 (.bool true)) (.var 5) 5 (.cell (.var 1) (.var 6) 0),.set (.var 1) (.var 6) 0 (.add (.var 5) (.int 1)),.var 2,.var 3,.var 4]))))))
theorem run87 : run z87 6000 [.code (Try.f87.body.getD .skip),.fin (aP z87 Try.f87.results.toList 50)] { fn:=87,tmps:=z87.sig.aE ++ List.replicate (Try.f87.ntmps - z87.sig.aE.length) (.v (.one .undef)),stk:=[],h:=z87.sig.h0,nx:=z87.sig.ins.length,known:=[]}=t87:=by kernel_rfl
theorem ok87 : bJ Try.prog 87 d87.ct:=by
 refine ax (d:=d87) (Z:=z87) (Γ:=gam l87) (fn:=Try.f87) (c:=Try.f87.body.getD .skip) (aJ tok mixed all_nil aK) Try.func87 (by kernel_rfl) (by kernel_rfl) rfl run87 fun E hk hp=>?_
 obtain ⟨hk0,hk1,hk2,hk3,hk4,hk5,hk6,_⟩:=hk
 obtain ⟨m,e0,e1,e2,e3,e4,b0,b1,b2,b3⟩:=bp (d0:=E 0) (d1:=E 1) (d2:=E 2) (d3:=E 3) (d4:=E 4) hk0 hk1 hk2 hk3 hk4
 obtain ⟨x,e5⟩:=ok_int (d:=E 5) hk5
 obtain ⟨x2,e6⟩:=ok_int (d:=E 6) hk6
 have el : aG E d87.sig.ins.length=[ai m.slots,aa m.heads,aa m.free,aa m.locks,.i m.now,.i x,.i x2]:=by
  show [E 0,E 1,E 2,E 3,E 4,E 5,E 6]=_
  rw [e0,e1,e2,e3,e4,e5,e6]
 rw [el] at hp
 rw [el]
 rw [Env.aU el]
 clear el e0 e1 e2 e3 e4 e5 e6
 rw [fn87]
 simp only [d87,mem_of,aq,List.getD_cons_zero,List.getD_cons_succ,CD.aL] at hp
 obtain ⟨h1,h2,h3,h4⟩:=hp
 unfold t87
 have r0 : ((ai m.slots).rows.getD x.toNat []).getD 0 .u=.i (msl m x.toNat).refs:=raw_s0 (by omega)
 have r1 : ((ai m.slots).rows.getD x.toNat []).getD 1 .u=.i (msl m x.toNat).k.a:=gl (by omega)
 have r2 : ((ai m.slots).rows.getD x.toNat []).getD 2 .u=.i (msl m x.toNat).k.b:=gk (by omega)
 have r3 : ((ai m.slots).rows.getD x.toNat []).getD 3 .u=.i (msl m x.toNat).till:=wZ (by omega)
 refine af (by simp only [nrm,xdn,reduceIte,Nat.reduceLT,Nat.reduceSub,Nat.reduceAdd];omega) (af (by simp only [nrm,xdn,reduceIte,Nat.reduceLT,Nat.reduceSub,Nat.reduceAdd,aw];omega) (af (by simp only [nrm,xdn,reduceIte,Nat.reduceLT,Nat.reduceSub,Nat.reduceAdd];omega) (af (by simp only [nrm,xdn,reduceIte,Nat.reduceLT,Nat.reduceSub,Nat.reduceAdd,aj];omega) (aH (by simp only [nrm,xdn,reduceIte,Nat.reduceLT,Nat.reduceSub,Nat.reduceAdd];omega) (ag ?_)))))
 simp only [nrm,xdn,reduceIte,Nat.reduceLT,Nat.reduceSub,Nat.reduceAdd,r0,r1,r2,r3,cL (show x2.toNat < m.heads.length by omega),iE,tw,tu,tt,oC,qN,dK,av,Mem.cds]
 rw [dt (fun s : bq=>(⟨(msl m x.toNat).refs,⟨(msl m x.toNat).k.a,(msl m x.toNat).k.b⟩,(msl m x.toNat).till,true,m.heads.getD x2.toNat 0⟩ : bq)) (o0 (cV m x2)) m.slots x.toNat rfl]
 rfl
def s89 : Sig:=⟨[.ptr [.own 52 kS,.own 3 kI,.own 3 kI,.own 3 kI,.int .i64],.one (.int .i64),.one (.int .i64),.one (.int .i64)],[]⟩
def d89 : DC:=⟨s89,fun l=>0≤(l.getD 5 .u).int∧(l.getD 5 .u).int≤(Mem.of l).slots.length∧0≤(l.getD 6 .u).int∧(l.getD 6 .u).int < (Mem.of l).slots.length∧0≤(l.getD 7 .u).int∧(l.getD 7 .u).int < (Mem.of l).heads.length,fun l=>(cut (Mem.of l) (l.getD 5 .u).int (l.getD 6 .u).int (l.getD 7 .u).int).cds⟩
theorem fn89 (m : Mem) (p a b : Int) : d89.fn [ai m.slots,aa m.heads,aa m.free,aa m.locks,.i m.now,.i p,.i a,.i b]=(cut m p a b).cds:=by simp only [d89,mem_of,aq,List.getD_cons_zero,List.getD_cons_succ,CD.aL]
theorem pre89 {m : Mem} {p a b : Int} (h0 : 0≤p) (h1 : p≤m.slots.length) (h2 : 0≤a) (h3 : a < m.slots.length) (h4 : 0≤b) (h5 : b < m.heads.length) : d89.pre [ai m.slots,aa m.heads,aa m.free,aa m.locks,.i m.now,.i p,.i a,.i b]:=by
 simp only [d89,mem_of,aq,List.getD_cons_zero,List.getD_cons_succ,CD.aL]
 exact ⟨h0,h1,h2,h3,h4,h5⟩
def l89 : List (Nat × Ct):=[]
def z89 : Cx:={ T:=ttA,C:=sigs l89,F:=[],hints:=[],sig:=s89}
def t89 : Tree :=
 (.need (.le (.int 0) (.var 6))
 (.need (.lt (.var 6) (.len (.var 0)))
 (.ite (.eq (.var 5) (.int 0))
 (.need (.le (.int 0) (.var 7))
 (.need (.lt (.var 7) (.len (.var 1)))
 (.ret [.var 0,.set (.var 1) (.var 7) 0 (.cell (.var 0) (.var 6) 5),.var 2,.var 3,.var 4])))
 (.need (.fit (.sub (.var 5) (.int 1)))
 (.need (.le (.int 0) (.sub (.var 5) (.int 1)))
 (.need (.lt (.sub (.var 5) (.int 1)) (.len (.var 0)))
 (.ret [.set (.var 0) (.sub (.var 5) (.int 1)) 5 (.cell (.var 0) (.var 6) 5),.var 1,.var 2,.var 3,.var 4])))))))
theorem run89 : run z89 6000 [.code (Try.f89.body.getD .skip),.fin (aP z89 Try.f89.results.toList 50)] { fn:=89,tmps:=z89.sig.aE ++ List.replicate (Try.f89.ntmps - z89.sig.aE.length) (.v (.one .undef)),stk:=[],h:=z89.sig.h0,nx:=z89.sig.ins.length,known:=[]}=t89:=by kernel_rfl
theorem ok89 : bJ Try.prog 89 d89.ct:=by
 refine ax (d:=d89) (Z:=z89) (Γ:=gam l89) (fn:=Try.f89) (c:=Try.f89.body.getD .skip) (aJ tok mixed all_nil aK) Try.func89 (by kernel_rfl) (by kernel_rfl) rfl run89 fun E hk hp=>?_
 obtain ⟨hk0,hk1,hk2,hk3,hk4,hk5,hk6,hk7,_⟩:=hk
 obtain ⟨m,e0,e1,e2,e3,e4,b0,b1,b2,b3⟩:=bp (d0:=E 0) (d1:=E 1) (d2:=E 2) (d3:=E 3) (d4:=E 4) hk0 hk1 hk2 hk3 hk4
 obtain ⟨x,e5⟩:=ok_int (d:=E 5) hk5
 obtain ⟨x2,e6⟩:=ok_int (d:=E 6) hk6
 obtain ⟨x3,e7⟩:=ok_int (d:=E 7) hk7
 have el : aG E d89.sig.ins.length=[ai m.slots,aa m.heads,aa m.free,aa m.locks,.i m.now,.i x,.i x2,.i x3]:=by
  show [E 0,E 1,E 2,E 3,E 4,E 5,E 6,E 7]=_
  rw [e0,e1,e2,e3,e4,e5,e6,e7]
 rw [el] at hp
 rw [el]
 rw [Env.aU el]
 clear el e0 e1 e2 e3 e4 e5 e6 e7
 rw [fn89]
 simp only [d89,mem_of,aq,List.getD_cons_zero,List.getD_cons_succ,CD.aL] at hp
 obtain ⟨h0,h1,h2,h3,h4,h5⟩:=hp
 have hn : ((ai m.slots).rows.getD x2.toNat []).getD 5 .u=.i (msl m x2.toNat).next:=fI (by omega)
 unfold cut
 unfold t89
 refine af (by simp only [nrm,xdn,reduceIte,Nat.reduceLT,Nat.reduceSub,Nat.reduceAdd];omega) (af (by simp only [nrm,xdn,reduceIte,Nat.reduceLT,Nat.reduceSub,Nat.reduceAdd,aw];omega) (ae (fun h=>?_) (fun h=>?_)))
 ·simp only [nrm,xdn,reduceIte,Nat.reduceLT,Nat.reduceSub,Nat.reduceAdd] at h
  rw [if_neg (by omega)]
  refine af (by simp only [nrm,xdn,reduceIte,Nat.reduceLT,Nat.reduceSub,Nat.reduceAdd];omega) (af (by simp only [nrm,xdn,reduceIte,Nat.reduceLT,Nat.reduceSub,Nat.reduceAdd,aj];omega) (ag ?_))
  simp only [nrm,xdn,reduceIte,Nat.reduceLT,Nat.reduceSub,Nat.reduceAdd,hn,dK,Mem.cds]
 ·simp only [nrm,xdn,reduceIte,Nat.reduceLT,Nat.reduceSub,Nat.reduceAdd] at h
  rw [if_pos (by omega)]
  refine aH (by simp only [nrm,xdn,reduceIte,Nat.reduceLT,Nat.reduceSub,Nat.reduceAdd];omega) (af (by simp only [nrm,xdn,reduceIte,Nat.reduceLT,Nat.reduceSub,Nat.reduceAdd];omega) (af (by simp only [nrm,xdn,reduceIte,Nat.reduceLT,Nat.reduceSub,Nat.reduceAdd,aw];omega) (ag ?_)))
  simp only [nrm,xdn,reduceIte,Nat.reduceLT,Nat.reduceSub,Nat.reduceAdd,hn,oC,Mem.cds]
  rfl
end Go.Proofs.Ytpmamacjepcdmaa
