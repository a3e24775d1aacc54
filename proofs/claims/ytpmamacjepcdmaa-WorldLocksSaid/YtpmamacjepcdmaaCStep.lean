import Derived.Test.YtpmamacjepcdmaaCChain2
namespace Go.Proofs.Ytpmamacjepcdmaa
open Go Go.Sy Go.RowKit
set_option linter.unusedSimpArgs false
set_option linter.unusedVariables false
def o0 (n : Int) (s : bq) : bq:={ s with inn:=true,next:=n}
def xg (n : Int) (s : bq) : bq:={ s with next:=n}
def link (m : Mem) (a b : Int) : Mem:={ m with slots:=m.slots.modify a.toNat (o0 (cV m b)),heads:=m.heads.set b.toNat (a + 1)}
def cut (m : Mem) (prev a b : Int) : Mem :=
 if 0 < prev then { m with slots:=m.slots.modify (prev - 1).toNat (xg (msl m a.toNat).next)} else { m with heads:=m.heads.set b.toNat (msl m a.toNat).next}
def bk (m : Mem) (k : Key) : Int:=(bH k m.heads.length).1
theorem wu {k : Key} {n : Int} (hk : Key.Ok k) (h1 : 1≤n) (h2 : n≤4) : 0≤(bH k n).1∧(bH k n).1 < n∧(bH k n).2=0:=by
 have hb:=mD hk.1 hk.2.1 hk.2.2.1 hk.2.2.2
 obtain ⟨k1,k2,k3,k4⟩:=id hk
 unfold bH
 rw [if_pos hk,if_neg (by omega)]
 exact ⟨Int.tmod_nonneg _ (by omega),Int.tmod_lt_of_pos _ (by omega),rfl⟩
theorem um {m : Mem} (hm : cr m) (b : Int) : (cw m b).1.length≤m.slots.length∧∀ a∈(cw m b).1,0≤a∧a < m.slots.length:=by
 unfold cw
 cases hc : dY m b with
 | none=>exact ⟨by simp,fun _ h=>by cases h⟩
 | some l=>exact ny hm hc
def yG (m : Mem) (a : Int) (k : Int) : Bool:=decide (k=a∨(msl m k.toNat).k=(msl m a.toNat).k)
def linked (m : Mem) (a : Int) : Mem × Int :=
 if cp m≠0 then (Mem.none,cp m) else if a < 0∨m.slots.length≤a then (Mem.none,5) else if (msl m a.toNat).refs=0 then (Mem.none,8)
 else if (cw m (bk m (msl m a.toNat).k)).1.any (yG m a)=true then (Mem.none,6) else (link m a (bk m (msl m a.toNat).k),0)
def vg (m : Mem) (k : Key) (b : Int) : List Int→Int→Mem × Int × Int
 | [],_=>(Mem.none,0,5)
 | a :: l,prev=>if (msl m a.toNat).k=k then (cut m prev a b,a,0) else vg m k b l (a + 1)
def yv (m : Mem) (k : Key) : Mem × Int × Int :=
 if cp m≠0 then (Mem.none,0,cp m) else if (bH k m.heads.length).2≠0 then (Mem.none,0,(bH k m.heads.length).2) else vg m k (bk m k) (cw m (bk m k)).1 0
def rh (m : Mem) (a : Int) : iq:=⟨(msl m a.toNat).k,a,(msl m a.toNat).till⟩
def kl (m : Mem) : Nat→Nat→List iq→List iq
 | 0,_,acc=>acc
 | n + 1,b,acc=>kl m n (b + 1) (acc ++ (cw m b).1.map (rh m))
def u7 (m : Mem) : List iq:=kl m m.heads.length 0 []
def iV (m : Mem) : List iq × Int:=if cp m≠0 then ([],cp m) else (u7 m,0)
theorem nO {m : Mem} (h : cp m=0) : cr m:=by
 unfold cp at h
 split at h
 ·rename_i hx;exact absurd h hx
 ·rename_i hx;exact (fW m).1 (Classical.not_not.1 hx)
def s176 : Sig:=⟨[.ptr [.own 52 kS,.own 3 kI,.own 3 kI,.own 3 kI,.int .i64],.one (.int .i64),.one (.int .i64)],[]⟩
def d176 : DC:=⟨s176,fun l=>0≤(l.getD 5 .u).int∧(l.getD 5 .u).int < (Mem.of l).slots.length∧0≤(l.getD 6 .u).int∧(l.getD 6 .u).int < (Mem.of l).heads.length,fun l=>(link (Mem.of l) (l.getD 5 .u).int (l.getD 6 .u).int).cds⟩
theorem fn176 (m : Mem) (a b : Int) : d176.fn [ai m.slots,aa m.heads,aa m.free,aa m.kM,.i m.now,.i a,.i b]=(link m a b).cds:=by simp only [d176,mem_of,aq,List.getD_cons_zero,List.getD_cons_succ,CD.aL]
def l176 : List (Nat × Ct):=[]
def z176 : Cx:={ T:=ttA,C:=sigs l176,F:=[],hints:=[],sig:=s176}
def t176 : Tree :=
 (.need (.le (.int 0) (.var 6))
 (.need (.lt (.var 6) (.len (.var 1)))
 (.need (.le (.int 0) (.var 5))
 (.need (.lt (.var 5) (.len (.var 0)))
 (.need (.fit (.add (.var 5) (.int 1)))
 (.ret [.set (.set (.var 0) (.var 5) 5 (.cell (.var 1) (.var 6) 0)) (.var 5) 4 (.bool true),.set (.var 1) (.var 6) 0 (.add (.var 5) (.int 1)),.var 2,.var 3,.var 4]))))))
theorem run176 : run z176 6000 [.code (Try.f176.body.getD .skip),.fin (aP z176 Try.f176.results.toList 50)] { fn:=176,tmps:=z176.sig.aE ++ List.replicate (Try.f176.ntmps - z176.sig.aE.length) (.v (.one .undef)),stk:=[],h:=z176.sig.h0,nx:=z176.sig.ins.length,known:=[]}=t176:=by kernel_rfl
theorem ok176 : bJ Try.prog 176 d176.ct:=by
 refine ax (d:=d176) (Z:=z176) (Γ:=gam l176) (fn:=Try.f176) (c:=Try.f176.body.getD .skip) (aJ tok mixed all_nil aK) Try.func176 (by kernel_rfl) (by kernel_rfl) rfl run176 fun E hk hp=>?_
 obtain ⟨hk0,hk1,hk2,hk3,hk4,hk5,hk6,_⟩:=hk
 obtain ⟨m,e0,e1,e2,e3,e4,b0,b1,b2,b3⟩:=bp (d0:=E 0) (d1:=E 1) (d2:=E 2) (d3:=E 3) (d4:=E 4) hk0 hk1 hk2 hk3 hk4
 obtain ⟨x,e5⟩:=ok_int (d:=E 5) hk5
 obtain ⟨x2,e6⟩:=ok_int (d:=E 6) hk6
 have el : aG E d176.sig.ins.length=[ai m.slots,aa m.heads,aa m.free,aa m.kM,.i m.now,.i x,.i x2]:=by
  show [E 0,E 1,E 2,E 3,E 4,E 5,E 6]=_
  rw [e0,e1,e2,e3,e4,e5,e6]
 rw [el] at hp
 rw [el]
 rw [Env.aU el]
 clear el e0 e1 e2 e3 e4 e5 e6
 rw [fn176]
 simp only [d176,mem_of,aq,List.getD_cons_zero,List.getD_cons_succ,CD.aL] at hp
 obtain ⟨h1,h2,h3,h4⟩:=hp
 unfold t176
 refine af (by simp only [nrm,xdn,reduceIte,Nat.reduceLT,Nat.reduceSub,Nat.reduceAdd];omega) (af (by simp only [nrm,xdn,reduceIte,Nat.reduceLT,Nat.reduceSub,Nat.reduceAdd,aj];omega) (af (by simp only [nrm,xdn,reduceIte,Nat.reduceLT,Nat.reduceSub,Nat.reduceAdd];omega) (af (by simp only [nrm,xdn,reduceIte,Nat.reduceLT,Nat.reduceSub,Nat.reduceAdd,aw];omega) (aH (by simp only [nrm,xdn,reduceIte,Nat.reduceLT,Nat.reduceSub,Nat.reduceAdd];omega) (ag ?_)))))
 simp only [nrm,xdn,reduceIte,Nat.reduceLT,Nat.reduceSub,Nat.reduceAdd,cL (show x2.toNat < m.heads.length by omega),oC,qN,dK,av,Mem.cds]
 rfl
def s177 : Sig:=⟨[.ptr [.own 52 kS,.own 3 kI,.own 3 kI,.own 3 kI,.int .i64],.one (.int .i64),.one (.int .i64),.one (.int .i64)],[]⟩
def d177 : DC:=⟨s177,fun l=>(l.getD 5 .u).int≤(Mem.of l).slots.length∧0≤(l.getD 6 .u).int∧(l.getD 6 .u).int < (Mem.of l).slots.length∧0≤(l.getD 7 .u).int∧(l.getD 7 .u).int < (Mem.of l).heads.length,fun l=>(cut (Mem.of l) (l.getD 5 .u).int (l.getD 6 .u).int (l.getD 7 .u).int).cds⟩
theorem fn177 (m : Mem) (p a b : Int) : d177.fn [ai m.slots,aa m.heads,aa m.free,aa m.kM,.i m.now,.i p,.i a,.i b]=(cut m p a b).cds:=by simp only [d177,mem_of,aq,List.getD_cons_zero,List.getD_cons_succ,CD.aL]
theorem pre177 {m : Mem} {p a b : Int} (h1 : p≤m.slots.length) (h2 : 0≤a) (h3 : a < m.slots.length) (h4 : 0≤b) (h5 : b < m.heads.length) : d177.pre [ai m.slots,aa m.heads,aa m.free,aa m.kM,.i m.now,.i p,.i a,.i b]:=by
 simp only [d177,mem_of,aq,List.getD_cons_zero,List.getD_cons_succ,CD.aL]
 exact ⟨h1,h2,h3,h4,h5⟩
def l177 : List (Nat × Ct):=[]
def z177 : Cx:={ T:=ttA,C:=sigs l177,F:=[],hints:=[],sig:=s177}
def t177 : Tree :=
 (.ite (.lt (.int 0) (.var 5))
 (.need (.fit (.sub (.var 5) (.int 1)))
 (.need (.le (.int 0) (.var 6))
 (.need (.lt (.var 6) (.len (.var 0)))
 (.need (.le (.int 0) (.sub (.var 5) (.int 1)))
 (.need (.lt (.sub (.var 5) (.int 1)) (.len (.var 0)))
 (.ret [.set (.var 0) (.sub (.var 5) (.int 1)) 5 (.cell (.var 0) (.var 6) 5),.var 1,.var 2,.var 3,.var 4]))))))
 (.need (.le (.int 0) (.var 6))
 (.need (.lt (.var 6) (.len (.var 0)))
 (.need (.le (.int 0) (.var 7))
 (.need (.lt (.var 7) (.len (.var 1)))
 (.ret [.var 0,.set (.var 1) (.var 7) 0 (.cell (.var 0) (.var 6) 5),.var 2,.var 3,.var 4]))))))
theorem run177 : run z177 6000 [.code (Try.f177.body.getD .skip),.fin (aP z177 Try.f177.results.toList 50)] { fn:=177,tmps:=z177.sig.aE ++ List.replicate (Try.f177.ntmps - z177.sig.aE.length) (.v (.one .undef)),stk:=[],h:=z177.sig.h0,nx:=z177.sig.ins.length,known:=[]}=t177:=by kernel_rfl
theorem ok177 : bJ Try.prog 177 d177.ct:=by
 refine ax (d:=d177) (Z:=z177) (Γ:=gam l177) (fn:=Try.f177) (c:=Try.f177.body.getD .skip) (aJ tok mixed all_nil aK) Try.func177 (by kernel_rfl) (by kernel_rfl) rfl run177 fun E hk hp=>?_
 obtain ⟨hk0,hk1,hk2,hk3,hk4,hk5,hk6,hk7,_⟩:=hk
 obtain ⟨m,e0,e1,e2,e3,e4,b0,b1,b2,b3⟩:=bp (d0:=E 0) (d1:=E 1) (d2:=E 2) (d3:=E 3) (d4:=E 4) hk0 hk1 hk2 hk3 hk4
 obtain ⟨x,e5⟩:=ok_int (d:=E 5) hk5
 obtain ⟨x2,e6⟩:=ok_int (d:=E 6) hk6
 obtain ⟨x3,e7⟩:=ok_int (d:=E 7) hk7
 have el : aG E d177.sig.ins.length=[ai m.slots,aa m.heads,aa m.free,aa m.kM,.i m.now,.i x,.i x2,.i x3]:=by
  show [E 0,E 1,E 2,E 3,E 4,E 5,E 6,E 7]=_
  rw [e0,e1,e2,e3,e4,e5,e6,e7]
 rw [el] at hp
 rw [el]
 rw [Env.aU el]
 clear el e0 e1 e2 e3 e4 e5 e6 e7
 rw [fn177]
 simp only [d177,mem_of,aq,List.getD_cons_zero,List.getD_cons_succ,CD.aL] at hp
 obtain ⟨h1,h2,h3,h4,h5⟩:=hp
 have hn : ((ai m.slots).rows.getD x2.toNat []).getD 5 .u=.i (msl m x2.toNat).next:=fI (by omega)
 unfold cut
 unfold t177
 refine ae (fun h=>?_) (fun h=>?_)
 ·simp only [nrm,xdn,reduceIte,Nat.reduceLT,Nat.reduceSub,Nat.reduceAdd] at h
  rw [if_pos h]
  refine aH (by simp only [nrm,xdn,reduceIte,Nat.reduceLT,Nat.reduceSub,Nat.reduceAdd];omega) (af (by simp only [nrm,xdn,reduceIte,Nat.reduceLT,Nat.reduceSub,Nat.reduceAdd];omega) (af (by simp only [nrm,xdn,reduceIte,Nat.reduceLT,Nat.reduceSub,Nat.reduceAdd,aw];omega) (af (by simp only [nrm,xdn,reduceIte,Nat.reduceLT,Nat.reduceSub,Nat.reduceAdd];omega) (af (by simp only [nrm,xdn,reduceIte,Nat.reduceLT,Nat.reduceSub,Nat.reduceAdd,aw];omega) (ag ?_)))))
  simp only [nrm,xdn,reduceIte,Nat.reduceLT,Nat.reduceSub,Nat.reduceAdd,hn,oC,Mem.cds]
  rfl
 ·simp only [nrm,xdn,reduceIte,Nat.reduceLT,Nat.reduceSub,Nat.reduceAdd] at h
  rw [if_neg h]
  refine af (by simp only [nrm,xdn,reduceIte,Nat.reduceLT,Nat.reduceSub,Nat.reduceAdd];omega) (af (by simp only [nrm,xdn,reduceIte,Nat.reduceLT,Nat.reduceSub,Nat.reduceAdd,aw];omega) (af (by simp only [nrm,xdn,reduceIte,Nat.reduceLT,Nat.reduceSub,Nat.reduceAdd];omega) (af (by simp only [nrm,xdn,reduceIte,Nat.reduceLT,Nat.reduceSub,Nat.reduceAdd,aj];omega) (ag ?_))))
  simp only [nrm,xdn,reduceIte,Nat.reduceLT,Nat.reduceSub,Nat.reduceAdd,hn,dK,Mem.cds]
end Go.Proofs.Ytpmamacjepcdmaa

namespace Go.Proofs.Ytpmamacjepcdmaa
open Go Go.Sy Go.RowKit
set_option linter.unusedSimpArgs false
set_option linter.unusedVariables false
structure bL (m : Mem) (f : Frm) : Prop where
 call : bg m f.c=0
 pc0 : 0≤f.pc
 pc9 : f.pc≤9
 n0 : 0≤f.n
 n9 : f.n≤1000000
 nd : f.done=false
 cur0 : -(m.heads.length : Int)≤f.cur
 cur1 : f.cur≤m.slots.length
 prev0 : 0≤f.prev
 prev1 : f.prev≤m.slots.length
 slot0 : -1≤f.slot
 slot1 : f.slot < m.slots.length
 keys : f.keys.length≤100
theorem pC (m : Mem) (f : Frm) : cD m f=0↔bL m f:=by
 unfold cD
 constructor
 ·intro h
  split at h
  ·rename_i h1;exact absurd h h1
  ·rename_i h1
   split at h
   ·cases h
   ·rename_i h2
    split at h
    ·cases h
    ·rename_i h3
     split at h
     ·cases h
     ·rename_i h4
      split at h
      ·cases h
      ·rename_i h5
       exact ⟨Classical.not_not.1 h1,by omega,by omega,by omega,by omega,by simpa using h3,by omega,by omega,by omega,by omega,by omega,by omega,by omega⟩
 ·intro h
  obtain ⟨h1,h2,h3,h4,h5,h6,h7,h8,h9,h10,h11,h12,h13⟩:=h
  rw [if_neg (fun x=>x h1),if_neg (by omega),if_neg (by rw [h6];exact Bool.false_ne_true),if_neg (by omega),if_neg (by omega)]
theorem sM {m : Mem} {c : Cal} (h : bg m c=0) (hk : c.kind=1∨c.kind=2∨c.kind=3) : Key.Ok c.k:=by
 unfold bg at h
 refine (iY c.k).1 ?_
 rcases hk with hk | hk | hk
 ·rwa [if_pos (.inl hk)] at h
 ·rw [if_neg (by omega),if_pos hk] at h
  split at h
  ·cases h
  ·exact h
 ·rwa [if_pos (.inr hk)] at h
theorem mT {m : Mem} {c : Cal} (h : bg m c=0) (hk : c.kind=2) : 1≤c.time∧c.time≤1000000:=by
 unfold bg at h
 rw [if_neg (by omega),if_pos hk] at h
 split at h
 ·cases h
 ·omega
theorem sN {m : Mem} {c : Cal} (h : bg m c=0) (hk : c.kind=4∨c.kind=5) : 0≤c.bucket∧c.bucket < m.heads.length:=by
 unfold bg at h
 rw [if_neg (by omega),if_neg (by omega),if_pos hk] at h
 split at h
 ·cases h
 ·omega
def fix (m : Mem) : Mem:={ m with heads:=List.replicate m.heads.length (-1),kM:=List.replicate m.heads.length (-1)}
structure aO (m : Mem) : Prop where
 fx : cr (fix m)
 nl : m.kM.length=m.heads.length
 hd : ∀ i,i < m.heads.length→-(m.heads.length : Int)≤m.heads.getD i 0∧m.heads.getD i 0≤m.slots.length
theorem dV (m : Mem) : (fix m).heads.length=m.heads.length:=List.length_replicate
theorem cr.BU {m : Mem} (h : cr m) : aO m:=by
 refine ⟨⟨h.ns,by rw [dV];exact h.nh1,by rw [dV];exact h.nh4,by simp [fix],h.oN,h.oM,by rw [dV];exact h.slot,fun i hi=>?_,h.free,h.nodup,h.leak⟩,h.nl,fun i hi=>⟨(h.head i hi).n1,(h.head i hi).n0⟩⟩
 rw [dV] at hi ⊢
 have hn:=h.nh1
 have e : (List.replicate m.heads.length (-1 : Int)).getD i 0=-1:=by simp [List.getD_eq_getElem?_getD,hi]
 show rB _ _ ((List.replicate m.heads.length (-1 : Int)).getD i 0) ((List.replicate m.heads.length (-1 : Int)).getD i 0)
 rw [e]
 exact ⟨by decide,by omega,by omega,by decide,by decide⟩
theorem aO.ns {m : Mem} (h : aO m) : m.slots.length≤12:=h.fx.ns
theorem aO.nh1 {m : Mem} (h : aO m) : 1≤m.heads.length:=by have:=h.fx.nh1;rwa [dV] at this
theorem aO.nh4 {m : Mem} (h : aO m) : m.heads.length≤4:=by have:=h.fx.nh4;rwa [dV] at this
theorem aO.oN {m : Mem} (h : aO m) : 0≤m.now:=h.fx.oN
theorem aO.oM {m : Mem} (h : aO m) : m.now≤1000000:=h.fx.oM
theorem aO.nf {m : Mem} (h : aO m) : m.free.length≤12:=h.fx.nf
theorem aO.sl {m : Mem} (h : aO m) {i : Nat} (hi : i < m.slots.length) : jR m.slots.length m.heads.length (msl m i):=by
 have:=h.fx.sl hi
 rwa [dV] at this
theorem aO.refs {m : Mem} (h : aO m) {a : Int} (h1 : 0≤a) (h2 : a < m.slots.length) : 0≤(msl m a.toNat).refs∧(msl m a.toNat).refs≤1000:=h.fx.refs h1 h2
theorem nk {m : Mem} (hm : aO m) (h : m.free.length≠0) : 0≤bG m∧bG m < m.slots.length:=by
 have:=hm.fx.free (bG m) (mc (by show _ < m.free.length;omega))
 exact ⟨this.1,this.2.1⟩
theorem bl {m : Mem} (hm : aO m) {c : Cal} (h : bg m c=0) (hk : 1≤c.kind∧c.kind≤5) : 0≤ay m c∧ay m c < m.heads.length:=by
 unfold ay
 by_cases h4 : c.kind=4∨c.kind=5
 ·rw [if_pos h4];exact sN h h4
 ·rw [if_neg h4]
  have:=wu (sM h (by omega)) (n:=m.heads.length) (by have:=hm.nh1;omega) (by have:=hm.nh4;omega)
  exact ⟨this.1,this.2.1⟩
def lock (m : Mem) (b task : Int) : Mem × Bool:=if m.kM.getD b.toNat 0=-1 then ({ m with kM:=m.kM.set b.toNat task},true) else (m,false)
def unlock (m : Mem) (b task : Int) : Mem:=if m.kM.getD b.toNat 0=task then { m with kM:=m.kM.set b.toNat (-1)} else m
def at1 (m : Mem) (f : Frm) : bq:=msl m (f.cur - 1).toNat
def at2 (m : Mem) (f : Frm) : bq:=msl m f.slot.toNat
def bw (m : Mem) (f : Frm) : Frm × Mem :=
 if f.pc=0 then ({ f with cur:=cV m (ay m f.c),pc:=1},m)
 else if f.pc=1∧0 < f.cur then ({ f with pc:=if (at1 m f).k=f.c.k then 3 else 2},m)
 else if f.pc=1∧f.cur=-1 - ay m f.c then (aF f 5,m)
 else if f.pc=2∧0 < f.cur then ({ f with cur:=(at1 m f).next,pc:=1},m)
 else if f.pc=3∧0 < f.cur then (if (hold m (f.cur - 1)).2=true then ({ f with slot:=f.cur - 1,pc:=4},(hold m (f.cur - 1)).1) else ({ f with pc:=0},m))
 else if f.pc=4∧0≤f.slot then (if (at2 m f).k≠f.c.k∨(at2 m f).inn=false then ({ f with pc:=5},m) else if (at2 m f).till≤m.now then ({ f with pc:=6},m) else (aF f 0,m))
 else if f.pc=5∧0≤f.slot then ({ f with slot:=-1,pc:=0},put m f.slot)
 else if f.pc=6∧0≤f.slot then (aF { f with slot:=-1} 5,put m f.slot)
 else ({ f with pc:=0},m)
def ck (m : Mem) (f : Frm) : Int:=if m.now + f.c.time≤2000000 then m.now + f.c.time else 2000000
def cx (m : Mem) (f : Frm) (task : Int) : Frm × Mem :=
 if f.pc=0 then
  (if (take m f.c.k (ck m f)).2.2≠0 then (aF f 7,m)
   else ({ f with slot:=(take m f.c.k (ck m f)).2.1,pc:=1},(take m f.c.k (ck m f)).1))
 else if f.pc=1 then ({ f with pc:=if (lock m (ay m f.c) task).2=true then 2 else f.pc},(lock m (ay m f.c) task).1)
 else if f.pc=2 then ({ f with cur:=cV m (ay m f.c),pc:=3},m)
 else if f.pc=3 then ({ f with pc:=if f.cur≤0 then 5 else if (at1 m f).k=f.c.k then 6 else 4},m)
 else if f.pc=4∧0 < f.cur then ({ f with cur:=(at1 m f).next,pc:=3},m)
 else if f.pc=5∧0≤f.slot then ({ f with e:=0,pc:=7},link m f.slot (ay m f.c))
 else if f.pc=6∧0≤f.slot then ({ f with slot:=-1,e:=6,pc:=7},put m f.slot)
 else if f.pc=7 then (aF f f.e,unlock m (ay m f.c) task)
 else ({ f with e:=8,pc:=7},m)
def bS (m : Mem) (f : Frm) (task : Int) : Frm × Mem :=
 if f.pc=0 then ({ f with pc:=if (lock m (ay m f.c) task).2=true then 1 else f.pc},(lock m (ay m f.c) task).1)
 else if f.pc=1 then ({ f with prev:=0,cur:=cV m (ay m f.c),pc:=2},m)
 else if f.pc=2 then (if f.cur≤0 then ({ f with e:=5,pc:=5},m) else ({ f with pc:=if (at1 m f).k=f.c.k then 4 else 3},m))
 else if f.pc=3∧0 < f.cur then ({ f with prev:=f.cur,cur:=(at1 m f).next,pc:=2},m)
 else if f.pc=4∧0 < f.cur then ({ f with slot:=f.cur - 1,e:=0,pc:=5},cut m f.prev (f.cur - 1) (ay m f.c))
 else if f.pc=5 then ({ f with pc:=6},unlock m (ay m f.c) task)
 else if f.pc=6 then (aF { f with slot:=if 0≤f.slot then -1 else f.slot} f.e,if 0≤f.slot then put m f.slot else m)
 else ({ f with e:=8,pc:=5},m)
def bB (m : Mem) (f : Frm) (task : Int) : Frm × Mem :=
 if f.pc=0 then ({ f with pc:=if (lock m (ay m f.c) task).2=true then 1 else f.pc},(lock m (ay m f.c) task).1)
 else if f.pc=1 then ({ f with prev:=0,cur:=cV m (ay m f.c),pc:=2},m)
 else if f.pc=2∧f.cur≤0 then ({ f with pc:=6},m)
 else if f.pc=2∧f.c.kind=5 then ({ f with keys:=if f.keys.length < 100 then f.keys ++ [(at1 m f).k] else f.keys,pc:=3},m)
 else if f.pc=2 then ({ f with pc:=if (at1 m f).till≤m.now then 4 else 3},m)
 else if f.pc=3∧0 < f.cur then ({ f with prev:=f.cur,cur:=(at1 m f).next,pc:=2},m)
 else if f.pc=4∧0 < f.cur then ({ f with slot:=f.cur - 1,cur:=(at1 m f).next,pc:=5},cut m f.prev (f.cur - 1) (ay m f.c))
 else if f.pc=5∧0≤f.slot then ({ f with slot:=-1,n:=if 1000000 < f.n + 1 then 1000000 else f.n + 1,pc:=2},put m f.slot)
 else if f.pc=6 then (aF f 0,unlock m (ay m f.c) task)
 else ({ f with pc:=6},m)
theorem gF {m : Mem} {a : Int} (h : (hold m a).2=false) : (hold m a).1=m:=by
 unfold hold at h ⊢
 split
 ·rfl
 ·rename_i hc;rw [if_neg hc] at h;cases h
theorem gD {m : Mem} {b t : Int} (h : (lock m b t).2=false) : (lock m b t).1=m:=by
 unfold lock at h ⊢
 split
 ·rename_i hc;rw [if_pos hc] at h;cases h
 ·rfl
theorem lG {m : Mem} {k : Key} {t : Int} (h : (take m k t).2.2≠0) : take m k t=(m,0,7):=by
 unfold take at h ⊢
 split
 ·rfl
 ·rename_i hc;rw [if_neg hc] at h;exact absurd rfl h
theorem nm {j k : Key} (h : ((j.a ==k.a) && ((j.b ==k.b) && true))=true) : j=k:=by
 simp only [Bool.and_true,Bool.and_eq_true,beq_iff_eq] at h
 cases j;cases k;simp only at h;rw [h.1,h.2]
theorem np {j k : Key} (h : ((j.a ==k.a) && ((j.b ==k.b) && true))=false) : j≠k:=fun e=>by
 rw [e] at h;simp at h
theorem sy (f : Frm) (e : Int) : d44.fn [.i f.c.kind,.i f.c.k.a,.i f.c.k.b,.i f.c.time,.i f.c.bucket,.i f.c.slot,.i f.pc,.i f.cur,.i f.prev,.i f.slot,.i f.n,ba f.keys,.b f.done,.i f.e,.i e]=(aF f e).cds:=by
 simp only [d44,bQ,List.getD_cons_zero,List.getD_cons_succ,CD.aL]
theorem yO (m : Mem) (c : Cal) : d48.fn [ai m.slots,aa m.heads,aa m.free,aa m.kM,.i m.now,.i c.kind,.i c.k.a,.i c.k.b,.i c.time,.i c.bucket,.i c.slot]=[.i (ay m c)]:=by
 simp only [d48,mem_of,aq,List.drop_succ_cons,List.drop_zero,dz,bF]
theorem fs162 (m : Mem) (k : Key) (x : Int) : d162.fn [ai m.slots,aa m.heads,aa m.free,aa m.kM,.i m.now,.i k.a,.i k.b,.i x]=(take m k x).1.cds ++ [.i (take m k x).2.1,.i (take m k x).2.2]:=by simp only [d162,mem_of,aq,List.drop_succ_cons,List.drop_zero,iP,dU,List.getD_cons_zero,List.getD_cons_succ,CD.aL]
theorem fs166 (m : Mem) (x : Int) : d166.fn [ai m.slots,aa m.heads,aa m.free,aa m.kM,.i m.now,.i x]=(hold m x).1.cds ++ [.b (hold m x).2]:=by simp only [d166,mem_of,aq,List.getD_cons_zero,List.getD_cons_succ,CD.aL]
theorem u5 (m : Mem) (x : Int) : d167.fn [ai m.slots,aa m.heads,aa m.free,aa m.kM,.i m.now,.i x]=(put m x).cds:=by simp only [d167,mem_of,aq,List.getD_cons_zero,List.getD_cons_succ,CD.aL]
theorem pi166 {m : Mem} {x : Int} (hm : aO m) (h0 : 0≤x) (h1 : x < m.slots.length) : d166.pre [ai m.slots,aa m.heads,aa m.free,aa m.kM,.i m.now,.i x]:=by
 simp only [d166,mem_of,aq,List.getD_cons_zero,List.getD_cons_succ,CD.aL]
 exact ⟨h0,h1,(hm.refs h0 h1).1,(hm.refs h0 h1).2⟩
theorem pi167 {m : Mem} {x : Int} (hm : aO m) (h0 : 0≤x) (h1 : x < m.slots.length) : d167.pre [ai m.slots,aa m.heads,aa m.free,aa m.kM,.i m.now,.i x]:=by
 simp only [d167,mem_of,aq,List.getD_cons_zero,List.getD_cons_succ,CD.aL]
 exact ⟨h0,h1,(hm.refs h0 h1).1,(hm.refs h0 h1).2,by have:=hm.nf;omega⟩
theorem rL {m : Mem} (hm : aO m) : m.free.length=0∨(0≤bG m∧bG m < m.slots.length):=by
 by_cases h : m.free.length=0
 ·exact .inl h
 ·exact .inr (nk hm h)
theorem pi162 {m : Mem} {k : Key} {x : Int} (hm : aO m) : d162.pre [ai m.slots,aa m.heads,aa m.free,aa m.kM,.i m.now,.i k.a,.i k.b,.i x]:=by
 simp only [d162,mem_of,aq]
 exact rL hm
end Go.Proofs.Ytpmamacjepcdmaa
