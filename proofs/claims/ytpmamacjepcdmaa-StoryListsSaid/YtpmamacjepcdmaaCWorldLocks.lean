import Derived.Test.YtpmamacjepcdmaaCRun
namespace Go.Proofs.Ytpmamacjepcdmaa
open Go Go.Sy Go.RowKit
set_option linter.unusedSimpArgs false
set_option linter.unusedVariables false
set_option maxRecDepth 20000
instance : Inhabited Pst:=⟨⟨0,⟨0,⟨0,0⟩,0,0,0⟩,0,0,0,0,0,[]⟩⟩
def qL : List Pik:=[⟨0,false,false,⟨2,⟨3,0⟩,5,0,0⟩⟩,⟨1,false,false,⟨1,⟨3,0⟩,0,0,0⟩⟩,⟨1,true,false,⟨0,⟨0,0⟩,0,0,0⟩⟩,⟨0,true,false,⟨0,⟨0,0⟩,0,0,0⟩⟩,⟨0,true,false,⟨0,⟨0,0⟩,0,0,0⟩⟩,⟨0,true,false,⟨0,⟨0,0⟩,0,0,0⟩⟩,⟨0,true,false,⟨0,⟨0,0⟩,0,0,0⟩⟩,⟨0,true,false,⟨0,⟨0,0⟩,0,0,0⟩⟩,⟨0,true,false,⟨0,⟨0,0⟩,0,0,0⟩⟩,⟨1,true,false,⟨0,⟨0,0⟩,0,0,0⟩⟩,⟨1,true,false,⟨0,⟨0,0⟩,0,0,0⟩⟩,⟨0,false,true,⟨0,⟨0,0⟩,0,0,0⟩⟩]
def pN : Wrd × Int:=iw 2 1 2
def Wrd.G4 (w : Wrd) : Wrd:=⟨w.m,w.ts.map Tsk.G4⟩
def pR : qE × Int:=BK pN.1.G4 qL
def pF : List cI × Int:=qw pR.1.w.G4
theorem pN_ok : pN.2=0:=by decide +kernel
theorem pR_ok : pR.2=0∧pR.1.said=[0,0,0,0,0,0,0,0,0,0,8,0]∧pR.1.past.length=2∧(pR.1.past.getD 0 default).e=0∧(pR.1.past.getD 0 default).task=0∧(pR.1.past.getD 1 default).e=5∧(pR.1.past.getD 1 default).to=9∧pR.1.w.m.now=1:=by decide +kernel
theorem pF_ok : pF.2=0∧pF.1.length=1:=by decide +kernel
theorem fY (a : List bp) (b c d : List Int) (n : Int) (ts : List Tsk) (l : List CD) : Wrd.of (au a :: af b :: af c :: af d :: .i n :: G2 ts :: l)=Wrd.G4 ⟨⟨a,b,c,d,n⟩,ts⟩:=by
 rw [ju];exact fX a b c d n _ l
theorem AB {l : List Pst} {i : Nat} (o : Nat) (h : i < l.length) : ((gl l).rows.getD i []).getD o .u=(l.getD i default).row.getD o .u:=dh Pst.row l i o h
def s79 : Sig:=⟨[],[.one (.bool)]⟩
def d79 : DC:=⟨s79,fun _=>True,fun _=>[.b true]⟩
def l79 : List (Nat × Ct):=[(78,d78.ct),(80,d80.ct),(134,d134.ct)]
def z79 : Cx:={ T:=ttA,C:=sigs l79,F:=[],hints:=[⟨79,5,true,[],[],[],[],0,0,false⟩],sig:=s79}
def t79 : Tree :=
 (.call 78 [.int 2,.int 1,.int 2] 0
 (.need (.clean (.var 5) 15)
 (.call 80 [.var 0,.var 1,.var 2,.var 3,.var 4,.shuts (.var 5) 15,.app (.app (.app (.app (.app (.app (.app (.app (.cons (.int 0) (.cons (.bool false) (.cons (.bool false) (.cons (.int 2) (.cons (.int 3) (.cons (.int 0) (.cons (.int 5) (.cons (.int 0) (.cons (.int 0) .row0))))))))) (.app (.cons (.int 1) (.cons (.bool false) (.cons (.bool false) (.cons (.int 1) (.cons (.int 3) (.cons (.int 0) (.cons (.int 0) (.cons (.int 0) (.cons (.int 0) .row0))))))))) (.cons (.int 1) (.cons (.bool true) (.cons (.bool false) (.cons (.int 0) (.cons (.int 0) (.cons (.int 0) (.cons (.int 0) (.cons (.int 0) (.cons (.int 0) .row0))))))))))) (.cons (.int 0) (.cons (.bool true) (.cons (.bool false) (.cons (.int 0) (.cons (.int 0) (.cons (.int 0) (.cons (.int 0) (.cons (.int 0) (.cons (.int 0) .row0)))))))))) (.cons (.int 0) (.cons (.bool true) (.cons (.bool false) (.cons (.int 0) (.cons (.int 0) (.cons (.int 0) (.cons (.int 0) (.cons (.int 0) (.cons (.int 0) .row0)))))))))) (.cons (.int 0) (.cons (.bool true) (.cons (.bool false) (.cons (.int 0) (.cons (.int 0) (.cons (.int 0) (.cons (.int 0) (.cons (.int 0) (.cons (.int 0) .row0)))))))))) (.cons (.int 0) (.cons (.bool true) (.cons (.bool false) (.cons (.int 0) (.cons (.int 0) (.cons (.int 0) (.cons (.int 0) (.cons (.int 0) (.cons (.int 0) .row0)))))))))) (.cons (.int 0) (.cons (.bool true) (.cons (.bool false) (.cons (.int 0) (.cons (.int 0) (.cons (.int 0) (.cons (.int 0) (.cons (.int 0) (.cons (.int 0) .row0)))))))))) (.cons (.int 0) (.cons (.bool true) (.cons (.bool false) (.cons (.int 0) (.cons (.int 0) (.cons (.int 0) (.cons (.int 0) (.cons (.int 0) (.cons (.int 0) .row0)))))))))) (.app (.cons (.int 1) (.cons (.bool true) (.cons (.bool false) (.cons (.int 0) (.cons (.int 0) (.cons (.int 0) (.cons (.int 0) (.cons (.int 0) (.cons (.int 0) .row0))))))))) (.app (.cons (.int 1) (.cons (.bool true) (.cons (.bool false) (.cons (.int 0) (.cons (.int 0) (.cons (.int 0) (.cons (.int 0) (.cons (.int 0) (.cons (.int 0) .row0))))))))) (.cons (.int 0) (.cons (.bool false) (.cons (.bool true) (.cons (.int 0) (.cons (.int 0) (.cons (.int 0) (.cons (.int 0) (.cons (.int 0) (.cons (.int 0) .row0)))))))))))] 7
 (.call 134 [.var 7,.var 8,.var 9,.var 10,.var 11,.var 12] 16
 (.ite (.eq (.var 6) (.int 0))
 (.ite (.eq (.var 15) (.int 0))
 (.ite (.eq (.var 17) (.int 0))
 (.ite (.eq (.len (.var 13)) (.int 12))
 (.need (.lt (.int 10) (.len (.var 13)))
 (.ite (.eq (.cell (.var 13) (.int 10) 0) (.int 8))
 (.ite (.eq (.len (.var 14)) (.int 2))
 (.need (.lt (.int 0) (.len (.var 14)))
 (.ite (.eq (.cell (.var 14) (.int 0) 9) (.int 0))
 (.ite (.eq (.cell (.var 14) (.int 0) 0) (.int 0))
 (.need (.lt (.int 1) (.len (.var 14)))
 (.ite (.eq (.cell (.var 14) (.int 1) 9) (.int 5))
 (.ite (.eq (.cell (.var 14) (.int 1) 8) (.int 9))
 (.ite (.eq (.len (.var 16)) (.int 1))
 (.ret [.eq (.var 11) (.int 1)])
 (.ret [.bool false]))
 (.ret [.bool false]))
 (.ret [.bool false])))
 (.ret [.bool false]))
 (.ret [.bool false])))
 (.ret [.bool false]))
 (.ret [.bool false])))
 (.ret [.bool false]))
 (.ret [.bool false]))
 (.ret [.bool false]))
 (.ret [.bool false]))))))
theorem run79 : run z79 6000 [.code (Try.f79.body.getD .skip),.fin (bt z79 Try.f79.results.toList 50)] { fn:=79,tmps:=z79.sig.aM ++ List.replicate (Try.f79.ntmps - z79.sig.aM.length) (.v (.one .undef)),stk:=[],h:=z79.sig.h0,nx:=z79.sig.ins.length,known:=[]}=t79:=by kernel_rfl
theorem ok79 : cB Try.prog 79 d79.ct:=by
 refine aD (d:=d79) (Z:=z79) (Γ:=gam l79) (fn:=Try.f79) (c:=Try.f79.body.getD .skip) (bg tok mixed (all_cons ok78 (all_cons ok80 (all_cons ok134 all_nil))) bh) Try.func79 (by kernel_rfl) (by kernel_rfl) rfl run79 fun E hk hp=>?_
 clear hk
 have el : aH E d79.sig.ins.length=[]:=rfl
 rw [el] at hp
 rw [el]
 rw [Env.bJ el]
 clear el
 simp only [d79]
 unfold t79
 refine ai d78 (pN.1.cds ++ [.i pN.2]) rfl trivial (by simp only [nrm,xdn,reduceIte,Nat.reduceLT,Nat.reduceSub,Nat.reduceAdd,d78];rfl) ?_
 refine ag (by simp only [nrm,xdn,reduceIte,Nat.reduceLT,Nat.reduceSub,Nat.reduceAdd,Wrd.cds,Mem.cds,lca];exact aI _) (ai d80 (pR.1.w.tM ++ [af pR.1.said,gl pR.1.past,.i pR.2]) rfl trivial ?_ ?_)
 ·simp only [nrm,xdn,reduceIte,Nat.reduceLT,Nat.reduceSub,Nat.reduceAdd,Wrd.cds,Mem.cds,lca,cg,CD.row,List.headD_cons,CD.ax]
  show d80.fn [au pN.1.m.slots,af pN.1.m.heads,af pN.1.m.free,af pN.1.m.ae,.i pN.1.m.now,G2 pN.1.ts,eD qL]=_
  simp only [d80,fY,List.getD_cons_zero,List.getD_cons_succ,oZ]
  rfl
 obtain ⟨k1,k2,k3,k4,k5,k6,k7,k8⟩:=pR_ok
 obtain ⟨j1,j2⟩:=pF_ok
 refine ai d134 [eM pF.1,.i pF.2] rfl trivial ?_ ?_
 ·simp only [nrm,xdn,reduceIte,Nat.reduceLT,Nat.reduceSub,Nat.reduceAdd,Wrd.cds,Wrd.tM,Mem.cds,lca,d134,fY]
  rfl
 have n0:=pN_ok
 have q0 : ((gl pR.1.past).rows.getD 0 []).getD 9 .u=.i (pR.1.past.getD 0 default).e:=by rw [AB 9 (by omega)];rfl
 have q1 : ((gl pR.1.past).rows.getD 0 []).getD 0 .u=.i (pR.1.past.getD 0 default).task:=by rw [AB 0 (by omega)];rfl
 have q2 : ((gl pR.1.past).rows.getD 1 []).getD 9 .u=.i (pR.1.past.getD 1 default).e:=by rw [AB 9 (by omega)];rfl
 have q3 : ((gl pR.1.past).rows.getD 1 []).getD 8 .u=.i (pR.1.past.getD 1 default).to:=by rw [AB 8 (by omega)];rfl
 have sl : ((af pR.1.said).rows.getD 10 []).getD 0 .u=.i 8:=by rw [k2];rfl
 have sn : pR.1.said.length=12:=by rw [k2];rfl
 generalize pN=N at *
 generalize pR=R at *
 generalize pF=F at *
 have t1 : (1 : Int).toNat=1:=rfl
 have t10 : (10 : Int).toNat=10:=rfl
 repeat' first
  | refine Bf (by simp only [nrm,xdn,reduceIte,Nat.reduceLT,Nat.reduceSub,Nat.reduceAdd,Wrd.cds,Wrd.tM,Mem.cds,lca,aw,qm,iT,Int.toNat_zero,t1,t10,q0,q1,q2,q3,sl,sn,n0,k1,k3,k4,k5,k6,k7,k8,j1,j2] <;> rfl) ?_
  | refine ag (by simp only [nrm,xdn,reduceIte,Nat.reduceLT,Nat.reduceSub,Nat.reduceAdd,Wrd.cds,Wrd.tM,Mem.cds,lca,aw,qm,iT,sn,k3] <;> omega) ?_
 refine aj ?_
 simp only [nrm,xdn,reduceIte,Nat.reduceLT,Nat.reduceSub,Nat.reduceAdd,Wrd.cds,Wrd.tM,Mem.cds,lca,k8] <;> rfl
end Go.Proofs.Ytpmamacjepcdmaa

namespace Go.Proofs.Ytpmamacjepcdmaa
open Go Go.Sy Go.RowKit
set_option linter.unusedSimpArgs false
set_option linter.unusedVariables false
theorem Im (ts : List Tsk) : G2 (ts.map Tsk.bm)=G2 ts:=by
 simp only [G2,List.map_map];rfl
theorem iQ (w : Wrd) : w.G4.bm=w.bm:=by
 simp only [Wrd.G4,Wrd.bm,List.map_map];rfl
end Go.Proofs.Ytpmamacjepcdmaa

namespace Go.Proofs.Ytpmamacjepcdmaa
open Go Go.Sy Go.RowKit
set_option linter.unusedSimpArgs false
set_option linter.unusedVariables false
def bI (f : Frm) : Prop:=(f.c.kind=2∧f.pc≠0∧f.pc≠1)∨(f.c.kind=3∧f.pc≠0∧f.pc≠6)∨((f.c.kind=4∨f.c.kind=5)∧f.pc≠0)
def nw (m : Mem) (f : Frm) (x : Int) (r : Frm × Mem) : Prop :=
 r.1.c=f.c∧((r.2.ae=m.ae∧(bI f→bI r.1∧r.1.done=false))∨(m.ae.getD (aa m f.c).toNat 0=-1∧r.2.ae=m.ae.set (aa m f.c).toNat x∧bI r.1∧r.1.done=false)∨r.2.ae=(unlock m (aa m f.c) x).ae)
theorem fP (m : Mem) (a : Int) : (put m a).ae=m.ae:=by
 unfold put
 repeat' split
 all_goals rfl
theorem iV (m : Mem) (p a b : Int) : (cut m p a b).ae=m.ae:=by
 unfold cut
 repeat' split
 all_goals rfl
theorem sy (m : Mem) (k : Key) (t : Int) : (take m k t).1.ae=m.ae:=by
 unfold take
 repeat' split
 all_goals rfl
theorem dA (m : Mem) (b x : Int) : (lock m b x=({ m with ae:=m.ae.set b.toNat x},true)∧m.ae.getD b.toNat 0=-1)∨lock m b x=(m,false):=by
 unfold lock
 split
 ·exact .inl ⟨rfl,by assumption⟩
 ·exact .inr rfl
theorem uC {m : Mem} {f : Frm} (x : Int) (hk : f.c.kind=2) (hd : f.done=false) : nw m f x (G3 m f x):=by
 unfold G3
 by_cases h1 : f.pc=1
 ·rw [if_neg (by omega),if_pos h1]
  rcases dA m (aa m f.c) x with ⟨h,hl⟩ | h
  ·rw [h]
   exact ⟨rfl,.inr (.inl ⟨hl,rfl,.inl ⟨hk,by simp,by simp⟩,hd⟩)⟩
  ·rw [h]
   refine ⟨rfl,.inl ⟨rfl,fun y=>?_⟩⟩
   unfold bI at y
   omega
 by_cases h7 : f.pc=7
 ·rw [if_neg (by omega),if_neg (by omega),if_neg (by omega),if_neg (by omega),if_neg (by omega),if_neg (by omega),if_neg (by omega),if_pos h7]
  exact ⟨rfl,.inr (.inr rfl)⟩
 have hold : ∀ g : Frm,g.c=f.c→g.pc≠0→g.pc≠1→g.done=f.done→(f.pc≠0→bI g∧g.done=false):=fun g c1 c2 c3 c4 _=>⟨.inl ⟨by rw [c1];exact hk,c2,c3⟩,by rw [c4];exact hd⟩
 have nz : bI f→f.pc≠0:=fun y=>by unfold bI at y;omega
 rw [if_neg h1]
 repeat' split
 all_goals first
  | exact absurd (by assumption) h7
  | exact ⟨rfl,.inl ⟨by first | rfl | exact sy _ _ _ | exact fP _ _,fun y=>by first | (exfalso;exact nz y (by assumption)) | (refine hold _ rfl ?_ ?_ rfl (nz y) <;> simp <;> (try split) <;> (try split) <;> decide)⟩⟩
theorem tP {m : Mem} {f : Frm} (x : Int) (hk : f.c.kind=3) (hd : f.done=false) : nw m f x (aL m f x):=by
 unfold aL
 by_cases h1 : f.pc=0
 ·rw [if_pos h1]
  rcases dA m (aa m f.c) x with ⟨h,hl⟩ | h
  ·rw [h]
   exact ⟨rfl,.inr (.inl ⟨hl,rfl,.inr (.inl ⟨hk,by simp,by simp⟩),hd⟩)⟩
  ·rw [h]
   refine ⟨rfl,.inl ⟨rfl,fun y=>?_⟩⟩
   unfold bI at y
   omega
 rw [if_neg h1]
 by_cases h7 : f.pc=5
 ·rw [if_neg (by omega),if_neg (by omega),if_neg (by omega),if_neg (by omega),if_pos h7]
  exact ⟨rfl,.inr (.inr rfl)⟩
 have hold : ∀ g : Frm,g.c=f.c→g.pc≠0→g.pc≠6→g.done=f.done→(bI f→bI g∧g.done=false):=fun g c1 c2 c3 c4 _=>⟨.inr (.inl ⟨by rw [c1];exact hk,c2,c3⟩),by rw [c4];exact hd⟩
 have nz : bI f→f.pc≠6:=fun y=>by unfold bI at y;omega
 repeat' split
 all_goals first
  | exact absurd (by assumption) h7
  | exact ⟨rfl,.inl ⟨by first | rfl | exact fP _ _ | exact iV _ _ _ _,fun y=>by first | (exfalso;exact nz y (by assumption)) | (refine hold _ rfl ?_ ?_ rfl y <;> simp <;> (try split) <;> (try split) <;> decide)⟩⟩
theorem rG {m : Mem} {f : Frm} (x : Int) (hk : f.c.kind=4∨f.c.kind=5) (hd : f.done=false) : nw m f x (aB m f x):=by
 unfold aB
 by_cases h1 : f.pc=0
 ·rw [if_pos h1]
  rcases dA m (aa m f.c) x with ⟨h,hl⟩ | h
  ·rw [h]
   exact ⟨rfl,.inr (.inl ⟨hl,rfl,.inr (.inr ⟨hk,by simp⟩),hd⟩)⟩
  ·rw [h]
   refine ⟨rfl,.inl ⟨rfl,fun y=>?_⟩⟩
   unfold bI at y
   omega
 rw [if_neg h1]
 by_cases h7 : f.pc=6
 ·rw [if_neg (by omega),if_neg (by omega),if_neg (by omega),if_neg (by omega),if_neg (by omega),if_neg (by omega),if_neg (by omega),if_pos h7]
  exact ⟨rfl,.inr (.inr rfl)⟩
 have hold : ∀ g : Frm,g.c=f.c→g.pc≠0→g.done=f.done→(bI f→bI g∧g.done=false):=fun g c1 c2 c4 _=>⟨.inr (.inr ⟨by rw [c1];exact hk,c2⟩),by rw [c4];exact hd⟩
 repeat' split
 all_goals first
  | exact absurd (by assumption) h7
  | exact ⟨rfl,.inl ⟨by first | rfl | exact fP _ _ | exact iV _ _ _ _,fun y=>by refine hold _ rfl ?_ rfl y <;> simp <;> (try split) <;> (try split) <;> decide⟩⟩
def lE (w : Wrd) (b : Nat) (t : Int) : Prop:=0≤t∧t < w.ts.length∧(tsk w t).busy=true∧bI (tsk w t).f∧aa w.m (tsk w t).f.c=b
def dW (w : Wrd) : Prop:=∀ b : Nat,b < w.m.ae.length→w.m.ae.getD b 0=-1∨lE w b (w.m.ae.getD b 0)
theorem eT {w : Wrd} {y : Mem} {x t : Int} {F : Tsk→Tsk} (hx0 : 0≤x) (hx : x < w.ts.length) (ht : 0≤t) : tsk ⟨y,w.ts.modify x.toNat F⟩ t=if t=x then F (tsk w x) else tsk w t:=by
 unfold tsk
 simp only [List.getD_eq_getElem?_getD,List.getElem?_modify]
 by_cases h : t=x
 ·subst h
  rw [if_pos rfl]
  have : t.toNat < w.ts.length:=by omega
  simp [this]
 ·rw [if_neg h]
  have : ¬ x.toNat=t.toNat:=by omega
  simp [this]
theorem ck {m y : Mem} (c : Cal) (h : y.heads.length=m.heads.length) : aa y c=aa m c:=by
 unfold aa;rw [h]
theorem kh {w : Wrd} {y : Mem} {x t : Int} {b : Nat} {F : Tsk→Tsk} (hx0 : 0≤x) (hx : x < w.ts.length) (hy : y.heads.length=w.m.heads.length) (h : lE w b t) (hne : t≠x) : lE ⟨y,w.ts.modify x.toNat F⟩ b t:=by
 obtain ⟨h1,h2,h3,h4,h5⟩:=h
 have e : tsk ⟨y,w.ts.modify x.toNat F⟩ t=tsk w t:=by rw [eT hx0 hx h1,if_neg hne]
 exact ⟨h1,by simpa using h2,by rw [e];exact h3,by rw [e];exact h4,by rw [e,← h5];exact ck _ hy⟩
theorem kZ {w : Wrd} {y : Mem} {x : Int} {F : Tsk→Tsk} (h : dW w) (hx0 : 0≤x) (hx : x < w.ts.length) (hy : y.heads.length=w.m.heads.length) (hl : y.ae=w.m.ae) (hno : ¬ ((tsk w x).busy=true∧bI (tsk w x).f)) : dW ⟨y,w.ts.modify x.toNat F⟩:=by
 intro b hb
 have hb : b < y.ae.length:=hb
 show y.ae.getD b 0=-1∨lE _ b (y.ae.getD b 0)
 rw [hl] at hb ⊢
 rcases h b hb with h | h
 ·exact .inl h
 ·refine .inr (kh hx0 hx hy h fun e=>hno ?_)
  rw [e] at h
  exact ⟨h.2.2.1,h.2.2.2.1⟩
theorem H3 {w : Wrd} {r : Frm × Mem} {x : Int} {F : Tsk→Tsk} (h : dW w) (hx0 : 0≤x) (hx : x < w.ts.length) (hbu : (tsk w x).busy=true) (hs : nw w.m (tsk w x).f x r) (hy : r.2.heads.length=w.m.heads.length)
  (hr : 0≤aa w.m (tsk w x).f.c∧aa w.m (tsk w x).f.c < w.m.heads.length) (hF : ∀ t,(F t).f=r.1∧(F t).busy=!r.1.done) : dW ⟨r.2,w.ts.modify x.toNat F⟩:=by
 obtain ⟨g,y⟩:=r
 obtain ⟨hc,hs⟩:=hs
 have hc : g.c=(tsk w x).f.c:=hc
 have hy : y.heads.length=w.m.heads.length:=hy
 have ex : tsk ⟨y,w.ts.modify x.toNat F⟩ x=F (tsk w x):=by rw [eT hx0 hx hx0,if_pos rfl]
 obtain ⟨q,hq⟩ : ∃ q : Nat,aa w.m (tsk w x).f.c=q:=⟨(aa w.m (tsk w x).f.c).toNat,by omega⟩
 have me : ∀ b : Nat,bI g→g.done=false→(b : Int)=aa w.m (tsk w x).f.c→lE ⟨y,w.ts.modify x.toNat F⟩ b x:=fun b k1 k2 k3 =>
  ⟨hx0,by simpa using hx,by rw [ex,(hF _).2,show (g,y).1.done=false from k2];rfl,by rw [ex,(hF _).1];exact k1,by rw [ex,(hF _).1];show aa y g.c=b;rw [ck _ hy,hc,k3]⟩
 have only : ∀ b : Nat,b < w.m.ae.length→w.m.ae.getD b 0=x→(b : Int)=aa w.m (tsk w x).f.c∧bI (tsk w x).f:=fun b hb he=>by
  rcases h b hb with h | h
  ·omega
  ·rw [he] at h
   exact ⟨h.2.2.2.2.symm,h.2.2.2.1⟩
 intro b hb
 have hb : b < y.ae.length:=hb
 show y.ae.getD b 0=-1∨lE _ b (y.ae.getD b 0)
 rcases hs with ⟨hl,hk⟩ | ⟨hl,hs,k1,k2⟩ | hs
 ·have hl : y.ae=w.m.ae:=hl
  rw [hl] at hb ⊢
  by_cases he : w.m.ae.getD b 0=x
  ·obtain ⟨o1,o2⟩:=only b hb he
   obtain ⟨k1,k2⟩:=hk o2
   rw [he]
   exact .inr (me b k1 k2 o1)
  ·rcases h b hb with h | h
   ·exact .inl h
   ·exact .inr (kh hx0 hx hy h he)
 ·have hs : y.ae=w.m.ae.set (aa w.m (tsk w x).f.c).toNat x:=hs
  rw [hq,Int.toNat_natCast] at hs
  rw [hs] at hb ⊢
  rw [List.length_set] at hb
  by_cases hbq : b=q
  ·subst hbq
   rw [show (w.m.ae.set b x).getD b 0=x from by simp [List.getD_eq_getElem?_getD,hb]]
   exact .inr (me b k1 k2 hq.symm)
  ·rw [show (w.m.ae.set q x).getD b 0=w.m.ae.getD b 0 from by simp only [List.getD_eq_getElem?_getD];rw [List.getElem?_set_ne (by omega)]]
   rcases h b hb with h | h
   ·exact .inl h
   ·refine .inr (kh hx0 hx hy h fun he=>?_)
    have:=(only b hb he).1
    omega
 ·have hs : y.ae=(unlock w.m (aa w.m (tsk w x).f.c) x).ae:=hs
  rw [hq] at hs
  unfold unlock at hs
  rw [Int.toNat_natCast] at hs
  split at hs
  ·have hs : y.ae=w.m.ae.set q (-1):=hs
   rw [hs] at hb ⊢
   rw [List.length_set] at hb
   by_cases hbq : b=q
   ·subst hbq
    exact .inl (by simp [List.getD_eq_getElem?_getD,hb])
   ·rw [show (w.m.ae.set q (-1)).getD b 0=w.m.ae.getD b 0 from by simp only [List.getD_eq_getElem?_getD];rw [List.getElem?_set_ne (by omega)]]
    rcases h b hb with h | h
    ·exact .inl h
    ·refine .inr (kh hx0 hx hy h fun he=>?_)
     have:=(only b hb he).1
     omega
  ·rename_i hnq
   rw [hs] at hb ⊢
   rcases h b hb with h | h
   ·exact .inl h
   ·refine .inr (kh hx0 hx hy h fun he=>hnq ?_)
    have:=(only b hb he).1
    have : b=q:=by omega
    rw [← this];exact he
theorem vS {f : Frm} (h : f.c.kind=1∨f.c.kind=6) : ¬ bI f:=fun y=>by unfold bI at y;omega
theorem Ia {w : Wrd} {t : Int} (h0 : 0≤t) (h : t < w.ts.length) : tsk w.bm t=(tsk w t).bm:=by
 unfold tsk Wrd.bm
 have : t.toNat < w.ts.length:=by omega
 simp only [List.getD_eq_getElem?_getD,List.getElem?_map]
 rw [List.getElem?_eq_getElem this];rfl
theorem BV {a b n : Int} (h : (iw a b n).2=0) : dW (iw a b n).1:=by
 unfold iw at h ⊢
 split at h
 ·rename_i h1;exact absurd h h1
 ·rename_i h1
  rw [if_neg h1]
  split at h
  ·cases h
  ·rename_i h2
   rw [if_neg h2]
   have h1 : (dx a b).2=0:=Classical.not_not.1 h1
   unfold dx at h1 ⊢
   split at h1
   ·cases h1
   ·rename_i h3
    rw [if_neg h3]
    intro i hi
    have hi : i < b.toNat:=by simpa using hi
    left
    simp [List.getD_eq_getElem?_getD,hi]
end Go.Proofs.Ytpmamacjepcdmaa
