import Derived.Test.YtpmamacjepcdmaaCStepLaws
namespace Go.Proofs.Ytpmamacjepcdmaa
open Go Go.Sy Go.RowKit
set_option linter.unusedSimpArgs false
set_option linter.unusedVariables false
structure Touch (m x : Mem) (b : Int) (free : Int) : Prop where
 sl : ∃ i g,x.slots=m.slots.modify i g
 hl : x.heads.length=m.heads.length
 ll : x.locks.length=m.locks.length
 hd : ∀ i : Nat,(i : Int)≠b→x.heads.getD i 0=m.heads.getD i 0
 lk : ∀ i : Nat,(i : Int)≠b→x.locks.getD i 0=m.locks.getD i 0
 now : x.now=m.now
 f0 : (m.free.length : Int) - free≤x.free.length
 f1 : x.free.length≤m.free.length + 1
def yE (m x : Mem) : Prop:=∀ i : Nat,(msl x i).k=(msl m i).k∧(msl x i).till=(msl m i).till∧(msl x i).inn=(msl m i).inn
theorem fR {α : Type} : ∀ (l : List α) (i : Nat),l.modify i (fun a=>a)=l
 | [],_=>by simp
 | a :: l,0=>by simp
 | a :: l,i + 1=>by simp [fR l i]
theorem np (l : List Int) {a : Int} (v : Int) {i : Nat} (h0 : 0≤a) (h : (i : Int)≠a) : (l.set a.toNat v).getD i 0=l.getD i 0:=by
 rw [List.getD_eq_getElem?_getD,List.getElem?_set_ne (by omega),← List.getD_eq_getElem?_getD]
theorem pk {m x : Mem} {i : Nat} {g : bp→bp} (h : x.slots=m.slots.modify i g) (hg : ∀ s,(g s).k=s.k∧(g s).till=s.till∧(g s).inn=s.inn) : yE m x:=fun j=>by
 have e : msl x j=if i=j∧i < m.slots.length then g (msl m j) else msl m j:=by
  show x.slots.getD j default=_
  rw [h];exact getD_modify g m.slots i j
 rw [e]
 split
 ·exact hg _
 ·exact ⟨rfl,rfl,rfl⟩
theorem qo (m : Mem) : yE m m:=fun _=>⟨rfl,rfl,rfl⟩
theorem Gd {m x : Mem} (h : x.slots=m.slots) : yE m x:=fun i=>by
 have e : msl x i=msl m i:=by show x.slots.getD i default=_;rw [h];rfl
 rw [e];exact ⟨rfl,rfl,rfl⟩
theorem fO (m : Mem) (b : Int) : Touch m m b 0:=⟨⟨0,fun s=>s,(fR _ _).symm⟩,rfl,rfl,fun _ _=>rfl,fun _ _=>rfl,rfl,by omega,by omega⟩
theorem mW (m : Mem) (a b : Int) : Touch m (put m a) b 0:=by
 unfold put
 split
 ·exact fO m b
 ·split
  ·exact ⟨⟨_,_,rfl⟩,rfl,rfl,fun _ _=>rfl,fun _ _=>rfl,rfl,by simp;omega,by simp⟩
  ·exact ⟨⟨_,_,rfl⟩,rfl,rfl,fun _ _=>rfl,fun _ _=>rfl,rfl,by simp,by simp⟩
theorem B7 (m : Mem) (a : Int) : yE m (put m a):=by
 unfold put
 split
 ·exact qo m
 ·split <;> exact pk rfl fun _=>⟨rfl,rfl,rfl⟩
theorem nX (m : Mem) (a b : Int) : Touch m (hold m a).1 b 0:=by
 unfold hold
 split
 ·exact fO m b
 ·exact ⟨⟨_,_,rfl⟩,rfl,rfl,fun _ _=>rfl,fun _ _=>rfl,rfl,by simp,by simp⟩
theorem zH (m : Mem) (a : Int) : yE m (hold m a).1:=by
 unfold hold
 split
 ·exact qo m
 ·exact pk rfl fun _=>⟨rfl,rfl,rfl⟩
theorem nV (m : Mem) {b : Int} (t : Int) (h0 : 0≤b) : Touch m (lock m b t).1 b 0:=by
 unfold lock
 split
 ·exact ⟨⟨0,fun s=>s,(fR _ _).symm⟩,rfl,by simp,fun _ _=>rfl,fun _ h=>np _ _ h0 h,rfl,by simp,by simp⟩
 ·exact fO m b
theorem Gu (m : Mem) (b t : Int) : yE m (lock m b t).1:=by
 unfold lock
 split
 ·exact Gd rfl
 ·exact qo m
theorem ku (m : Mem) {b : Int} (t : Int) (h0 : 0≤b) : Touch m (unlock m b t) b 0:=by
 unfold unlock
 split
 ·exact ⟨⟨0,fun s=>s,(fR _ _).symm⟩,rfl,by simp,fun _ _=>rfl,fun _ h=>np _ _ h0 h,rfl,by simp,by simp⟩
 ·exact fO m b
theorem Gi (m : Mem) (b t : Int) : yE m (unlock m b t):=by
 unfold unlock
 split
 ·exact Gd rfl
 ·exact qo m
theorem nW (m : Mem) (a : Int) {b : Int} (h0 : 0≤b) : Touch m (link m a b) b 0 :=
 ⟨⟨_,_,rfl⟩,by simp [link],rfl,fun _ h=>np _ _ h0 h,fun _ _=>rfl,rfl,by simp [link],by simp [link]⟩
theorem uG (m : Mem) (p a : Int) {b : Int} (h0 : 0≤b) : Touch m (cut m p a b) b 0:=by
 unfold cut
 split
 ·exact ⟨⟨_,_,rfl⟩,by simp,rfl,fun _ _=>rfl,fun _ _=>rfl,rfl,by simp,by simp⟩
 ·exact ⟨⟨0,fun s=>s,(fR _ _).symm⟩,by simp,rfl,fun _ h=>np _ _ h0 h,fun _ _=>rfl,rfl,by simp,by simp⟩
theorem Gz (m : Mem) (p a b : Int) : yE m (cut m p a b):=by
 unfold cut
 split
 ·exact pk rfl fun _=>⟨rfl,rfl,rfl⟩
 ·exact Gd rfl
theorem yM (m : Mem) (k : Key) (t b : Int) : Touch m (take m k t).1 b 1:=by
 unfold take
 split
 ·exact ⟨⟨0,fun s=>s,(fR _ _).symm⟩,rfl,rfl,fun _ _=>rfl,fun _ _=>rfl,rfl,by omega,by dsimp only;omega⟩
 ·exact ⟨⟨_,_,rfl⟩,rfl,rfl,fun _ _=>rfl,fun _ _=>rfl,rfl,by simp;omega,by simp;omega⟩
structure vz (m : Mem) (f g : Frm) : Prop where
 c : g.c=f.c
 pc : 0≤g.pc∧g.pc≤9
 n : f.n≤g.n∧g.n≤1000000
 cur : -(m.heads.length : Int)≤g.cur∧g.cur≤m.slots.length
 prev : 0≤g.prev∧g.prev≤m.slots.length
 slot : -1≤g.slot∧g.slot < m.slots.length
 keys : g.keys.length≤100
theorem Touch.len {m x : Mem} {b n : Int} (h : Touch m x b n) : x.slots.length=m.slots.length:=by
 obtain ⟨i,g,e⟩:=h.sl
 rw [e,List.length_modify]
theorem vz.ok {m x : Mem} {f g : Frm} {b n : Int} (h : vz m f g) (hf : bV m f) (ht : Touch m x b n) (hd : g.done=false) : bV x g :=
 hf.with ht.len ht.hl h.c hd h.pc ⟨by have:=h.n.1;have:=hf.n0;omega,h.n.2⟩ h.cur h.prev h.slot h.keys
theorem qV {m : Mem} {f : Frm} (hm : aZ m) (hf : bV m f) (hk : f.c.kind=1) : vz m f (ar m f).1:=by
 have hb:=aQ hm hf.call (by omega)
 have hh:=px hm hb.1 hb.2
 have hn : 0 < f.cur→-(m.heads.length : Int)≤(at1 m f).next∧(at1 m f).next≤m.slots.length:=fun h=>pd hm (by have:=hf.cur1;omega)
 obtain ⟨f1,f2,f3,f4,f5,f6,f7,f8,f9,f10,f11,f12,f13⟩:=id hf
 unfold ar
 repeat' split
 all_goals refine ⟨rfl,?_,?_,?_,?_,?_,?_⟩
 all_goals first
  | exact ⟨by omega,by omega⟩
  | exact hh
  | exact hn (by omega)
  | exact f13
  | (show (f.keys ++ [(at1 m f).k]).length≤100;simp only [List.length_append,List.length_singleton];omega)
  | (dsimp only [ay];exact ⟨by omega,by omega⟩)
theorem mg {m : Mem} {f : Frm} : Touch m (ar m f).2 (aa m f.c) 0∧yE m (ar m f).2∧(ar m f).2.heads=m.heads∧(ar m f).2.locks=m.locks:=by
 unfold ar
 have hH:=pv m (f.cur - 1)
 have hP:=jw m f.slot
 repeat' split
 all_goals first
  | exact ⟨fO m _,qo m,rfl,rfl⟩
  | exact ⟨mW m _ _,B7 m _,hP.2.1,hP.2.2.1⟩
  | exact ⟨nX m _ _,zH m _,hH.2.1,hH.2.2.1⟩
theorem GB {m : Mem} {f : Frm} (hm : bB m) (hf : bV m f) : bB (ar m f).2:=by
 obtain ⟨f1,f2,f3,f4,f5,f6,f7,f8,f9,f10,f11,f12,f13⟩:=id hf
 unfold ar
 repeat' split
 all_goals first
  | exact hm
  | exact we hm (by omega) (by omega)
  | exact iY hm (by omega) (by omega)
theorem rk {m : Mem} {f : Frm} (t : Int) (hm : aZ m) (hf : bV m f) (hk : f.c.kind=3) : vz m f (aL m f t).1:=by
 have hb:=aQ hm hf.call (by omega)
 have hh:=px hm hb.1 hb.2
 have hn : 0 < f.cur→-(m.heads.length : Int)≤(at1 m f).next∧(at1 m f).next≤m.slots.length:=fun h=>pd hm (by have:=hf.cur1;omega)
 obtain ⟨f1,f2,f3,f4,f5,f6,f7,f8,f9,f10,f11,f12,f13⟩:=id hf
 unfold aL
 repeat' split
 all_goals refine ⟨rfl,?_,?_,?_,?_,?_,?_⟩
 all_goals first
  | exact ⟨by omega,by omega⟩
  | exact hh
  | exact hn (by omega)
  | exact f13
  | (show (f.keys ++ [(at1 m f).k]).length≤100;simp only [List.length_append,List.length_singleton];omega)
  | (dsimp only [ay];exact ⟨by omega,by omega⟩)
theorem gz {m : Mem} {f : Frm} (t : Int) (hm : aZ m) (hf : bV m f) (hk : f.c.kind=3) : Touch m (aL m f t).2 (aa m f.c) 0:=by
 have hb:=aQ hm hf.call (by omega)
 unfold aL
 repeat' split
 all_goals first
  | exact fO m _
  | exact mW m _ _
  | exact nX m _ _
  | exact nV m _ hb.1
  | exact ku m _ hb.1
  | exact nW m _ hb.1
  | exact uG m _ _ hb.1
theorem Gv {m : Mem} {f : Frm} (t : Int) : yE m (aL m f t).2:=by
 unfold aL
 repeat' split
 all_goals first
  | exact qo m
  | exact B7 m _
  | exact zH m _
  | exact Gu m _ _
  | exact Gi m _ _
  | exact Gz m _ _ _
theorem oT {m : Mem} {f : Frm} (t : Int) (hm : aZ m) (hf : bV m f) (hk : f.c.kind=4∨f.c.kind=5) : vz m f (aB m f t).1:=by
 have hb:=aQ hm hf.call (by omega)
 have hh:=px hm hb.1 hb.2
 have hn : 0 < f.cur→-(m.heads.length : Int)≤(at1 m f).next∧(at1 m f).next≤m.slots.length:=fun h=>pd hm (by have:=hf.cur1;omega)
 obtain ⟨f1,f2,f3,f4,f5,f6,f7,f8,f9,f10,f11,f12,f13⟩:=id hf
 unfold aB
 repeat' split
 all_goals refine ⟨rfl,?_,?_,?_,?_,?_,?_⟩
 all_goals first
  | exact ⟨by omega,by omega⟩
  | exact hh
  | exact hn (by omega)
  | exact f13
  | (show (f.keys ++ [(at1 m f).k]).length≤100;simp only [List.length_append,List.length_singleton];omega)
  | (dsimp only [ay];exact ⟨by omega,by omega⟩)
theorem fF {m : Mem} {f : Frm} (t : Int) (hm : aZ m) (hf : bV m f) (hk : f.c.kind=4∨f.c.kind=5) : Touch m (aB m f t).2 (aa m f.c) 0:=by
 have hb:=aQ hm hf.call (by omega)
 unfold aB
 repeat' split
 all_goals first
  | exact fO m _
  | exact mW m _ _
  | exact nX m _ _
  | exact nV m _ hb.1
  | exact ku m _ hb.1
  | exact nW m _ hb.1
  | exact uG m _ _ hb.1
theorem IM {m : Mem} {f : Frm} (t : Int) : yE m (aB m f t).2:=by
 unfold aB
 repeat' split
 all_goals first
  | exact qo m
  | exact B7 m _
  | exact zH m _
  | exact Gu m _ _
  | exact Gi m _ _
  | exact Gz m _ _ _
theorem ud {m : Mem} {f : Frm} (t : Int) (hm : aZ m) (hf : bV m f) (hk : f.c.kind=2) : vz m f (G3 m f t).1:=by
 have hb:=aQ hm hf.call (by omega)
 have hh:=px hm hb.1 hb.2
 have hn : 0 < f.cur→-(m.heads.length : Int)≤(at1 m f).next∧(at1 m f).next≤m.slots.length:=fun h=>pd hm (by have:=hf.cur1;omega)
 obtain ⟨f1,f2,f3,f4,f5,f6,f7,f8,f9,f10,f11,f12,f13⟩:=id hf
 have ht : (take m f.c.k (bE m f)).2.2=0→0≤(take m f.c.k (bE m f)).2.1∧(take m f.c.k (bE m f)).2.1 < m.slots.length:=by
  unfold take
  split
  ·intro h;cases h
  ·rename_i h;exact fun _=>qZ hm h
 unfold G3
 repeat' split
 all_goals refine ⟨rfl,?_,?_,?_,?_,?_,?_⟩
 all_goals first
  | exact ⟨by omega,by omega⟩
  | exact hh
  | exact hn (by omega)
  | exact f13
  | (rename_i h;exact ⟨by have:=ht (Classical.not_not.1 h);dsimp only;omega,(ht (Classical.not_not.1 h)).2⟩)
  | (dsimp only [ay];exact ⟨by omega,by omega⟩)
theorem gW {m : Mem} {f : Frm} (t : Int) (hm : aZ m) (hf : bV m f) (hk : f.c.kind=2) : Touch m (G3 m f t).2 (aa m f.c) 1:=by
 have hb:=aQ hm hf.call (by omega)
 have up : ∀ {x : Mem},Touch m x (aa m f.c) 0→Touch m x (aa m f.c) 1:=fun h=>⟨h.sl,h.hl,h.ll,h.hd,h.lk,h.now,by have:=h.f0;omega,h.f1⟩
 unfold G3
 repeat' split
 all_goals first
  | exact up (fO m _)
  | exact yM m _ _ _
  | exact up (mW m _ _)
  | exact up (nV m _ hb.1)
  | exact up (ku m _ hb.1)
  | exact up (nW m _ hb.1)
theorem nI {m : Mem} {f : Frm} (hm : aZ m) (hf : bV m f) : aZ (ar m f).2:=by
 obtain ⟨f1,f2,f3,f4,f5,f6,f7,f8,f9,f10,f11,f12,f13⟩:=id hf
 unfold ar
 repeat' split
 all_goals first
  | exact hm
  | exact hm.hold (by omega) (by omega)
  | exact hm.put (by omega) (by omega)
theorem uy {m : Mem} {f : Frm} (t : Int) (hm : aZ m) (hf : bV m f) : aZ (aL m f t).2:=by
 obtain ⟨f1,f2,f3,f4,f5,f6,f7,f8,f9,f10,f11,f12,f13⟩:=id hf
 unfold aL
 repeat' split
 all_goals first
  | exact hm
  | exact hm.lock _ _
  | exact hm.unlock _ _
  | exact hm.put (by omega) (by omega)
  | exact hm.cut (by omega) (by omega) (by omega)
theorem sB {m : Mem} {f : Frm} (t : Int) (hm : aZ m) (hf : bV m f) : aZ (aB m f t).2:=by
 obtain ⟨f1,f2,f3,f4,f5,f6,f7,f8,f9,f10,f11,f12,f13⟩:=id hf
 unfold aB
 repeat' split
 all_goals first
  | exact hm
  | exact hm.lock _ _
  | exact hm.unlock _ _
  | exact hm.put (by omega) (by omega)
  | exact hm.cut (by omega) (by omega) (by omega)
theorem wE {m : Mem} {f : Frm} (t : Int) (hm : aZ m) (hf : bV m f) (hk : f.c.kind=2) : aZ (G3 m f t).2:=by
 have hb:=aQ hm hf.call (by omega)
 have hK:=mH hf.call (by omega)
 have ht:=nv hf.call hk
 have n0:=hm.ma
 have n1:=hm.Ik
 obtain ⟨f1,f2,f3,f4,f5,f6,f7,f8,f9,f10,f11,f12,f13⟩:=id hf
 unfold G3
 repeat' split
 all_goals first
  | exact hm
  | exact hm.lock _ _
  | exact hm.unlock _ _
  | exact hm.put (by omega) (by omega)
  | exact hm.link (by omega) (by omega) hb.1 hb.2
  | (refine hm.take hK ?_ ?_ <;> unfold bE <;> split <;> omega)
end Go.Proofs.Ytpmamacjepcdmaa

namespace Go.Proofs.Ytpmamacjepcdmaa
open Go Go.Sy Go.RowKit
set_option linter.unusedSimpArgs false
set_option linter.unusedVariables false
def sM0 : Mem:=⟨[default,default],[-1],[1,0],[-1],0⟩
def sM1 : Mem:=⟨[⟨1,⟨3,0⟩,5,false,0⟩,default],[-1],[1],[-1],0⟩
def sM : Mem:=⟨[⟨1,⟨3,0⟩,5,true,-1⟩,default],[1],[1],[-1],0⟩
theorem sm0 : dx 2 1=(sM0,0):=by decide +kernel
theorem sm1 : taken sM0 ⟨3,0⟩ 5=(sM1,0,0):=by decide +kernel
theorem sm2 : linked sM1 0=(sM,0):=by decide +kernel
theorem sm_ok : aZ sM:=((dT sM).1 (by decide +kernel)).rJ
theorem fs57 (a b : Int) : d57.fn [.i a,.i b]=(dx a b).1.cds ++ [.i (dx a b).2]:=rfl
def s180 : Sig:=⟨[],[.agg [.own 52 kS,.own 3 kI,.own 3 kI,.own 3 kI,.int .i64],.one (.bool)]⟩
def d180 : DC:=⟨s180,fun _=>True,fun _=>sM.cds ++ [.b true]⟩
def l180 : List (Nat × Ct):=[(57,d57.ct),(54,d54.ct),(82,d82.ct)]
def z180 : Cx:={ T:=ttA,C:=sigs l180,F:=[],hints:=[],sig:=s180}
def t180 : Tree :=
 (.call 57 [.int 2,.int 1] 0
 (.call 54 [.var 0,.var 1,.var 2,.var 3,.var 4,.int 3,.int 0,.int 5] 6
 (.call 82 [.var 6,.var 7,.var 8,.var 9,.var 10,.var 11] 13
 (.ite (.eq (.var 5) (.int 0))
 (.ite (.eq (.var 12) (.int 0))
 (.ite (.eq (.var 18) (.int 0))
 (.ite (.eq (.var 11) (.int 0))
 (.ret [.var 13,.var 14,.var 15,.var 16,.var 17,.eq (.len (.var 13)) (.int 2)])
 (.ret [.var 13,.var 14,.var 15,.var 16,.var 17,.bool false]))
 (.ret [.var 13,.var 14,.var 15,.var 16,.var 17,.bool false]))
 (.ret [.var 13,.var 14,.var 15,.var 16,.var 17,.bool false]))
 (.ret [.var 13,.var 14,.var 15,.var 16,.var 17,.bool false])))))
theorem run180 : run z180 6000 [.code (Try.f180.body.getD .skip),.fin (bt z180 Try.f180.results.toList 50)] { fn:=180,tmps:=z180.sig.aM ++ List.replicate (Try.f180.ntmps - z180.sig.aM.length) (.v (.one .undef)),stk:=[],h:=z180.sig.h0,nx:=z180.sig.ins.length,known:=[]}=t180:=by kernel_rfl
theorem ok180 : cB Try.prog 180 d180.ct:=by
 refine aD (d:=d180) (Z:=z180) (Γ:=gam l180) (fn:=Try.f180) (c:=Try.f180.body.getD .skip) (bg tok mixed (all_cons ok57 (all_cons ok54 (all_cons ok82 all_nil))) bh) Try.func180 (by kernel_rfl) (by kernel_rfl) rfl run180 fun E hk hp=>?_
 clear hk
 have el : aH E d180.sig.ins.length=[]:=rfl
 rw [el] at hp
 rw [el]
 rw [Env.bJ el]
 clear el
 simp only [d180]
 unfold t180
 refine ai d57 (sM0.cds ++ [.i 0]) rfl trivial (by simp only [nrm,xdn,reduceIte,Nat.reduceLT,Nat.reduceSub,Nat.reduceAdd,fs57,sm0]) ?_
 refine ai d54 (sM1.cds ++ [.i 0,.i 0]) rfl trivial (by simp only [nrm,xdn,reduceIte,Nat.reduceLT,Nat.reduceSub,Nat.reduceAdd,Mem.cds,lca,fn54,sm1]) ?_
 refine ai d82 (sM.cds ++ [.i 0]) rfl trivial (by simp only [nrm,xdn,reduceIte,Nat.reduceLT,Nat.reduceSub,Nat.reduceAdd,Mem.cds,lca,fn82,sm2]) ?_
 repeat (refine G0 (fun _=>?_) (fun h=>absurd h (by simp only [nrm,xdn,reduceIte,Nat.reduceLT,Nat.reduceSub,Nat.reduceAdd,Mem.cds,lca];decide)))
 refine aj ?_
 simp only [nrm,xdn,reduceIte,Nat.reduceLT,Nat.reduceSub,Nat.reduceAdd,Mem.cds,lca,aN]
 rfl
def s100 : Sig:=⟨[.agg [.fz kS,.fz kI,.fz kI,.fz kI,.int .i64],.agg [.int .i64,.int .i64,.int .i64,.int .i64,.int .i64,.int .i64,.int .i64,.int .i64,.int .i64,.int .i64,.int .i64,.fz kK,.bool,.int .i64]],[.one (.bool)]⟩
def d100 : DC:=⟨s100,fun _=>True,fun l=>[.b (decide (cP (Mem.of l)=0∧eO (Mem.of l) (Frm.of (l.drop 5))=0))]⟩
theorem fn100 (m : Mem) (f : Frm) : d100.fn [au m.slots,af m.heads,af m.free,af m.locks,.i m.now,.i f.c.kind,.i f.c.k.a,.i f.c.k.b,.i f.c.time,.i f.c.bucket,.i f.c.slot,.i f.pc,.i f.cur,.i f.prev,.i f.slot,.i f.n,bS f.keys,.b f.done,.i f.e]=[.b (decide (cP m=0∧eO m f=0))]:=by
 simp only [d100,mem_of,aA,List.drop_succ_cons,List.drop_zero,dJ]
def l100 : List (Nat × Ct):=[(58,d58.ct),(46,d46.ct)]
def z100 : Cx:={ T:=ttA,C:=sigs l100,F:=[],hints:=[],sig:=s100}
def t100 : Tree :=
 (.call 58 [.var 0,.var 1,.var 2,.var 3,.var 4] 19
 (.ite (.eq (.var 19) (.int 0))
 (.call 46 [.var 0,.var 1,.var 2,.var 3,.var 4,.var 5,.var 6,.var 7,.var 8,.var 9,.var 10,.var 11,.var 12,.var 13,.var 14,.var 15,.var 16,.var 17,.var 18] 20
 (.ret [.eq (.var 20) (.int 0)]))
 (.ret [.bool false])))
theorem run100 : run z100 6000 [.code (Try.f100.body.getD .skip),.fin (bt z100 Try.f100.results.toList 50)] { fn:=100,tmps:=z100.sig.aM ++ List.replicate (Try.f100.ntmps - z100.sig.aM.length) (.v (.one .undef)),stk:=[],h:=z100.sig.h0,nx:=z100.sig.ins.length,known:=[]}=t100:=by kernel_rfl
theorem ok100 : cB Try.prog 100 d100.ct:=by
 refine aD (d:=d100) (Z:=z100) (Γ:=gam l100) (fn:=Try.f100) (c:=Try.f100.body.getD .skip) (bg tok mixed (all_cons ok58 (all_cons ok46 all_nil)) bh) Try.func100 (by kernel_rfl) (by kernel_rfl) rfl run100 fun E hk hp=>?_
 obtain ⟨hk0,hk1,hk2,hk3,hk4,hk5,hk6,hk7,hk8,hk9,hk10,hk11,hk12,hk13,hk14,hk15,hk16,hk17,hk18,_⟩:=hk
 obtain ⟨m,e0,e1,e2,e3,e4,b0,b1,b2,b3⟩:=cv (d0:=E 0) (d1:=E 1) (d2:=E 2) (d3:=E 3) (d4:=E 4) hk0 hk1 hk2 hk3 hk4
 obtain ⟨f,e5,e6,e7,e8,e9,e10,e11,e12,e13,e14,e15,e16,e17,e18,b16⟩:=ja (d0:=E 5) (d1:=E 6) (d2:=E 7) (d3:=E 8) (d4:=E 9) (d5:=E 10) (d6:=E 11) (d7:=E 12) (d8:=E 13) (d9:=E 14) (d10:=E 15) (d11:=E 16) (d12:=E 17) (d13:=E 18) hk5 hk6 hk7 hk8 hk9 hk10 hk11 hk12 hk13 hk14 hk15 hk16 hk17 hk18
 have el : aH E d100.sig.ins.length=[au m.slots,af m.heads,af m.free,af m.locks,.i m.now,.i f.c.kind,.i f.c.k.a,.i f.c.k.b,.i f.c.time,.i f.c.bucket,.i f.c.slot,.i f.pc,.i f.cur,.i f.prev,.i f.slot,.i f.n,bS f.keys,.b f.done,.i f.e]:=by
  show [E 0,E 1,E 2,E 3,E 4,E 5,E 6,E 7,E 8,E 9,E 10,E 11,E 12,E 13,E 14,E 15,E 16,E 17,E 18]=_
  rw [e0,e1,e2,e3,e4,e5,e6,e7,e8,e9,e10,e11,e12,e13,e14,e15,e16,e17,e18]
 rw [el] at hp
 rw [el]
 rw [Env.bJ el]
 clear el e0 e1 e2 e3 e4 e5 e6 e7 e8 e9 e10 e11 e12 e13 e14 e15 e16 e17 e18
 rw [fn100]
 unfold t100
 refine ai d58 [.i (cP m)] rfl trivial (by simp only [nrm,xdn,reduceIte,Nat.reduceLT,Nat.reduceSub,Nat.reduceAdd,fn58]) (G0 (fun h=>?_) (fun h=>aj ?_))
 ·simp only [nrm,xdn,reduceIte,Nat.reduceLT,Nat.reduceSub,Nat.reduceAdd] at h
  refine ai d46 [.i (eO m f)] rfl trivial (by simp only [nrm,xdn,reduceIte,Nat.reduceLT,Nat.reduceSub,Nat.reduceAdd,fn46]) (aj ?_)
  simp only [nrm,xdn,reduceIte,Nat.reduceLT,Nat.reduceSub,Nat.reduceAdd,h,true_and]
  by_cases e : eO m f=0 <;> simp [e]
 ·simp only [nrm,xdn,reduceIte,Nat.reduceLT,Nat.reduceSub,Nat.reduceAdd] at h ⊢
  simp [h]
end Go.Proofs.Ytpmamacjepcdmaa
