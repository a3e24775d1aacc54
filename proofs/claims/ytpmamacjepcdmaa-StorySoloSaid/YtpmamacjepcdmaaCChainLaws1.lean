import Derived.Test.YtpmamacjepcdmaaCStep
namespace Go.Proofs.Ytpmamacjepcdmaa
open Go Go.Sy Go.RowKit
set_option linter.unusedSimpArgs false
set_option linter.unusedVariables false
theorem Bz {l : List Int} {j : Nat} (h : j < l.length) : l.take (j + 1)=l.take j ++ [l.getD j 0]:=by
 rw [List.take_succ_eq_append_getElem h,List.getD_eq_getElem?_getD,List.getElem?_eq_getElem h,Option.getD_some]
def s71 : Sig:=⟨[.agg [.fz kS,.fz kI,.fz kI,.fz kI,.int .i64]],[.one (.own 78 kW),.one (.int .i64)]⟩
def d71 : DC:=⟨s71,fun _=>True,fun l=>[eM (jM (Mem.of l)).1,.i (jM (Mem.of l)).2]⟩
theorem fn71 (m : Mem) : d71.fn [au m.slots,af m.heads,af m.free,af m.ae,.i m.now]=[eM (jM m).1,.i (jM m).2]:=by simp only [d71,mem_of,aA]
def l71 : List (Nat × Ct):=[(74,d74.ct),(168,d168.ct)]
def z71 : Cx:={ T:=ttA,C:=sigs l71,F:=[],hints:=[⟨71,6,false,[(19,.lt),(5,.own 78 kW)],[],[],[],0,0,false⟩,⟨71,10,false,[(30,.lt),(5,.own 78 kW)],[],[],[],0,0,false⟩],sig:=s71}
def t71 : Tree :=
 (.call 74 [.var 0,.var 1,.var 2,.var 3,.var 4] 5
 (.ite (.not (.eq (.var 5) (.int 0)))
 (.ret [.nil,.var 5])
 (.loop 6 [.sl 32 [.int .i64,.int .i64,.int .i64,.int .i64],.int .i64] [.nil,.int 0]
 (.ite (.lt (.var 8) (.len (.var 1)))
 (.call 168 [.var 0,.var 1,.var 2,.var 3,.var 4,.var 8] 9
 (.loop 11 [.sl 32 [.int .i64,.int .i64,.int .i64,.int .i64],.int .i64] [.var 7,.int 0]
 (.ite (.lt (.var 13) (.len (.var 9)))
 (.need (.le (.int 0) (.var 13))
 (.need (.le (.int 0) (.cell (.var 9) (.var 13) 0))
 (.need (.lt (.cell (.var 9) (.var 13) 0) (.len (.var 0)))
 (.need (.le (.add (.len (.var 12)) (.int 1)) (.int 4398046511104))
 (.need (.fit (.add (.var 13) (.int 1)))
 (.back 11 [.app (.var 12) (.cons (.cell (.var 0) (.cell (.var 9) (.var 13) 0) 1) (.cons (.cell (.var 0) (.cell (.var 9) (.var 13) 0) 2) (.cons (.cell (.var 9) (.var 13) 0) (.cons (.cell (.var 0) (.cell (.var 9) (.var 13) 0) 3) .row0)))),.add (.var 13) (.int 1)]))))))
 (.need (.fit (.add (.var 8) (.int 1)))
 (.back 6 [.var 12,.add (.var 8) (.int 1)])))))
 (.ret [.var 7,.int 0])))))
theorem run71 : run z71 6000 [.code (Try.f71.body.getD .skip),.fin (bt z71 Try.f71.results.toList 50)] { fn:=71,tmps:=z71.sig.aM ++ List.replicate (Try.f71.ntmps - z71.sig.aM.length) (.v (.one .undef)),stk:=[],h:=z71.sig.h0,nx:=z71.sig.ins.length,known:=[]}=t71:=by kernel_rfl
theorem ok71 : cB Try.prog 71 d71.ct:=by
 refine aD (d:=d71) (Z:=z71) (Γ:=gam l71) (fn:=Try.f71) (c:=Try.f71.body.getD .skip) (bg tok mixed (all_cons ok74 (all_cons ok168 all_nil)) bh) Try.func71 (by kernel_rfl) (by kernel_rfl) rfl run71 fun E hk hp=>?_
 obtain ⟨hk0,hk1,hk2,hk3,hk4,_⟩:=hk
 obtain ⟨m,e0,e1,e2,e3,e4,b0,b1,b2,b3⟩:=cv (d0:=E 0) (d1:=E 1) (d2:=E 2) (d3:=E 3) (d4:=E 4) hk0 hk1 hk2 hk3 hk4
 have el : aH E d71.sig.ins.length=[au m.slots,af m.heads,af m.free,af m.ae,.i m.now]:=by
  show [E 0,E 1,E 2,E 3,E 4]=_
  rw [e0,e1,e2,e3,e4]
 rw [el] at hp
 rw [el]
 rw [Env.bJ el]
 clear el e0 e1 e2 e3 e4
 rw [fn71]
 unfold jM
 unfold t71
 refine ai d74 [.i (bU m)] rfl trivial (by simp only [nrm,xdn,reduceIte,Nat.reduceLT,Nat.reduceSub,Nat.reduceAdd,fn74]) (G0 (fun h=>aj ?_) (fun h=>?_))
 ·simp only [nrm,xdn,reduceIte,Nat.reduceLT,Nat.reduceSub,Nat.reduceAdd,Bool.not_eq_true'] at h ⊢
  rw [if_pos h];rfl
 simp only [nrm,xdn,reduceIte,Nat.reduceLT,Nat.reduceSub,Nat.reduceAdd,Bool.not_eq_false'] at h
 rw [if_neg (by omega)]
 have hm:=rM (by omega : bU m=0)
 have hns:=hm.ns
 have hnh:=hm.nh4
 refine bO (fun ds=>∃ (b : Nat) (acc : List cI),ds=[eM acc,.i b]∧b≤m.heads.length∧acc.length≤b * 12∧aq m=bC m (m.heads.length - b) b acc) (fun ds=>m.heads.length - (ds.getD 1 .u).int.toNat) ⟨0,[],rfl,by omega,by simp,rfl⟩ ?_
 rintro ds - ⟨b,acc,rfl,hb,hkl,ht⟩
 refine G0 (fun hlt=>?_) (fun hge=>aj ?_)
 ·simp only [nrm,xdn,reduceIte,Nat.reduceLT,Nat.reduceSub,Nat.reduceAdd,aw] at hlt
  have e1 : m.heads.length - b=m.heads.length - (b + 1) + 1:=by omega
  rw [e1] at ht
  refine ai d168 [af (bP m b).1,.i (bP m b).2] rfl ?_ (by simp only [nrm,xdn,reduceIte,Nat.reduceLT,Nat.reduceSub,Nat.reduceAdd,fn168]) ?_
  ·simp only [nrm,xdn,reduceIte,Nat.reduceLT,Nat.reduceSub,Nat.reduceAdd]
   exact pre168 hm (by omega) (by omega)
  obtain ⟨hl,hlm⟩:=oL hm b
  rw [bC] at ht
  generalize (bP m b).1=l at *
  refine bO (fun ds=>∃ (j : Nat) (acc' : List cI),ds=[eM acc',.i j]∧j≤l.length∧acc'=acc ++ (l.take j).map (bu m)) (fun ds=>l.length - (ds.getD 1 .u).int.toNat) ⟨0,acc,?_,by omega,by simp⟩ ?_
  ·simp only [nrm,xdn,reduceIte,Nat.reduceLT,Nat.reduceSub,Nat.reduceAdd];rfl
  rintro ds - ⟨j,acc',rfl,hj,hs⟩
  have hal : acc'.length=acc.length + j:=by rw [hs];simp;omega
  refine G0 (fun hlt'=>?_) (fun hge'=>?_)
  ·simp only [nrm,xdn,reduceIte,Nat.reduceLT,Nat.reduceSub,Nat.reduceAdd,aw] at hlt'
   have ha:=hlm (l.getD j 0) (pA (by omega))
   have hraw : ((af l).rows.getD j []).getD 0 .u=.i (l.getD j 0):=iK (by omega)
   have hnx : acc ++ (l.take (j + 1)).map (bu m)=acc' ++ [bu m (l.getD j 0)]:=by
    rw [Bz (by omega),hs,List.map_append,← List.append_assoc];rfl
   generalize hag : l.getD j 0=a at *
   have hk1 : ((au m.slots).rows.getD a.toNat []).getD 1 .u=.i (msl m a.toNat).k.a:=qc (by omega)
   have hk2 : ((au m.slots).rows.getD a.toNat []).getD 2 .u=.i (msl m a.toNat).k.b:=qb (by omega)
   have hk3 : ((au m.slots).rows.getD a.toNat []).getD 3 .u=.i (msl m a.toNat).till:=FO (by omega)
   refine ag (by simp only [nrm,xdn,reduceIte,Nat.reduceLT,Nat.reduceSub,Nat.reduceAdd];omega) (ag (by simp only [nrm,xdn,reduceIte,Nat.reduceLT,Nat.reduceSub,Nat.reduceAdd,Int.toNat_natCast,hraw];omega) (ag (by simp only [nrm,xdn,reduceIte,Nat.reduceLT,Nat.reduceSub,Nat.reduceAdd,Int.toNat_natCast,hraw,aN];omega) (eh (by simp only [nrm,xdn,reduceIte,Nat.reduceLT,Nat.reduceSub,Nat.reduceAdd,iT];omega) (G1 (by simp only [nrm,xdn,reduceIte,Nat.reduceLT,Nat.reduceSub,Nat.reduceAdd];omega) (aV ⟨⟨j + 1,_,?_,by omega,hnx.symm⟩,?_⟩)))))
   ·simp only [nrm,xdn,reduceIte,Nat.reduceLT,Nat.reduceSub,Nat.reduceAdd,Int.toNat_natCast,hraw,hk1,hk2,hk3,CD.row,List.headD_cons,Eb]
    rfl
   ·simp only [nrm,xdn,reduceIte,Nat.reduceLT,Nat.reduceSub,Nat.reduceAdd];omega
  ·simp only [nrm,xdn,reduceIte,Nat.reduceLT,Nat.reduceSub,Nat.reduceAdd,aw] at hge'
   have hjl : j=l.length:=by omega
   subst hjl
   rw [List.take_length] at hs
   refine G1 (by simp only [nrm,xdn,reduceIte,Nat.reduceLT,Nat.reduceSub,Nat.reduceAdd];omega) (fj (by decide) ⟨⟨b + 1,acc',?_,by omega,by omega,?_⟩,?_⟩)
   ·simp only [nrm,xdn,reduceIte,Nat.reduceLT,Nat.reduceSub,Nat.reduceAdd];rfl
   ·rw [ht,hs]
   ·simp only [nrm,xdn,reduceIte,Nat.reduceLT,Nat.reduceSub,Nat.reduceAdd];omega
 ·simp only [nrm,xdn,reduceIte,Nat.reduceLT,Nat.reduceSub,Nat.reduceAdd,aw] at hge ⊢
  rw [show m.heads.length - b=0 from by omega] at ht
  rw [ht];rfl
def hM0 : Mem:=⟨[default,default],[-1,-2],[1,0],[-1,-1],0⟩
def hM1 : Mem:=⟨[⟨1,⟨1,2⟩,5,false,0⟩,default],[-1,-2],[1],[-1,-1],0⟩
def hM2 : Mem:=⟨[⟨1,⟨1,2⟩,5,true,-2⟩,default],[-1,1],[1],[-1,-1],0⟩
def hM3 : Mem:=⟨[⟨1,⟨1,2⟩,5,true,-2⟩,default],[-1,-2],[1],[-1,-1],0⟩
theorem h0 : dx 2 2=(hM0,0):=by decide +kernel
theorem h1 : taken hM0 ⟨1,2⟩ 5=(hM1,0,0):=by decide +kernel
theorem h2 : linked hM1 0=(hM2,0):=by decide +kernel
theorem h3 : jM hM2=([⟨⟨1,2⟩,0,5⟩],0):=by decide +kernel
theorem h4 : EA hM2 ⟨1,2⟩=(hM3,0,0):=by decide +kernel
theorem h5 : slotsOf hM3 1=([],0):=by decide +kernel
end Go.Proofs.Ytpmamacjepcdmaa

namespace Go.Proofs.Ytpmamacjepcdmaa
open Go Go.Sy Go.RowKit
set_option linter.unusedSimpArgs false
set_option linter.unusedVariables false
def kys (m : Mem) (a : Int) : Key:=(msl m a.toNat).k
structure Ab (m : Mem) (b : Int) (a : Int) : Prop where
 refs : (msl m a.toNat).refs≠0
 inn : (msl m a.toNat).inn=true
 bk : bk m (kys m a)=b
structure fH (m : Mem) (b : Nat) (l : List Int) : Prop where
 of : cQ m b=some l
 ok : ∀ a∈l,Ab m b a
 nd : (l.map (kys m)).Nodup
structure aK (m : Mem) : Prop where
 mem : bB m
 all : ∀ b : Nat,b < m.heads.length→∃ l,fH m b l
theorem qX {m : Mem} {b : Int} {ks : List Key} {a : Int} : eY m b ks a=0↔Ab m b a∧kys m a ∉ ks:=by
 unfold eY
 constructor
 ·intro h
  split at h
  ·cases h
  ·rename_i h1
   split at h
   ·cases h
   ·rename_i h2
    split at h
    ·cases h
    ·rename_i h3
     refine ⟨⟨fun e=>h1 (.inl e),?_,Classical.not_not.1 h2⟩,h3⟩
     cases hx : (msl m a.toNat).inn with
     | true=>rfl
     | false=>exact absurd (.inr hx) h1
 ·rintro ⟨⟨h1,h2,h3⟩,h4⟩
  rw [if_neg,if_neg (fun h=>h h3),if_neg (show (msl m a.toNat).k ∉ ks from h4)]
  rintro (e | e)
  ·exact h1 e
  ·rw [h2] at e;cases e
theorem jO {m : Mem} {b : Int} : ∀ {l : List Int} {ks : List Key},((bQ m b l ks).1=0↔(∀ a∈l,Ab m b a∧kys m a ∉ ks)∧(l.map (kys m)).Nodup)
 | [],ks=>by simp [bQ]
 | a :: l,ks=>by
  have ih:=jO (m:=m) (b:=b) (l:=l) (ks:=kys m a :: ks)
  simp only [bQ]
  split
  ·rename_i h
   constructor
   ·intro e;exact absurd e h
   ·intro e;exact absurd (qX.2 (e.1 a (by simp))) h
  ·rename_i h
   have h0:=qX.1 (Classical.not_not.1 h)
   show (bQ m b l (kys m a :: ks)).1=0↔_
   rw [ih]
   simp only [List.map_cons,List.nodup_cons,List.mem_cons,not_or,forall_eq_or_imp]
   constructor
   ·rintro ⟨h1,h2⟩
    refine ⟨⟨h0,fun x hx=>⟨(h1 x hx).1,(h1 x hx).2.2⟩⟩,fun hm=>?_,h2⟩
    obtain ⟨y,hy,e⟩:=List.mem_map.1 hm
    exact (h1 y hy).2.1 e
   ·rintro ⟨⟨_,h1⟩,h2,h3⟩
    exact ⟨fun x hx=>⟨(h1 x hx).1,fun e=>h2 (List.mem_map.2 ⟨x,hx,e⟩),(h1 x hx).2⟩,h3⟩
theorem pM {m : Mem} {b : Int} : ∀ {l : List Int} {ks : List Key},(bQ m b l ks).1=0→∀ k∈(bQ m b l ks).2,k∈ks∨∃ a∈l,k=kys m a
 | [],ks,_,k,hk=>.inl hk
 | a :: l,ks,h,k,hk=>by
  simp only [bQ] at h hk
  split at h
  ·rename_i hx;exact absurd h hx
  ·rename_i hx
   rw [if_neg hx] at hk
   rcases pM h k hk with h1 | ⟨x,h1,h2⟩
   ·rcases List.mem_cons.1 h1 with rfl | h1
    ·exact .inr ⟨a,by simp,rfl⟩
    ·exact .inl h1
   ·exact .inr ⟨x,by simp [h1],h2⟩
theorem jN {m : Mem} : ∀ {n b : Nat} {ks : List Key},(∀ k∈ks,bk m k < b)→(dk m n b ks=0↔∀ i,b≤i→i < b + n→∃ l,fH m i l)
 | 0,b,ks,_=>by simp only [dk,true_iff];intro i h1 h2;omega
 | n + 1,b,ks,hk=>by
  cases hc : cQ m b with
  | none =>
   rw [mF hc]
   constructor
   ·intro h;cases h
   ·intro h
    obtain ⟨l,hl⟩:=h b (Nat.le_refl _) (by omega)
    rw [hl.of] at hc;cases hc
  | some l =>
   rw [mE hc]
   by_cases h0 : (bQ m b l ks).1=0
   ·rw [if_neg (fun h=>h h0)]
    obtain ⟨h1,h2⟩:=jO.1 h0
    have ih:=jN (m:=m) (n:=n) (b:=b + 1) (ks:=(bQ m b l ks).2) fun k hk'=>by
     rcases pM h0 k hk' with h | ⟨a,ha,e⟩
     ·have:=hk k h;omega
     ·rw [e,(h1 a ha).1.bk];omega
    rw [ih]
    constructor
    ·intro h i hi1 hi2
     rcases Nat.lt_or_ge b i with hl | hg
     ·exact h i (by omega) (by omega)
     ·have : i=b:=by omega
      subst this
      exact ⟨l,hc,fun a ha=>(h1 a ha).1,h2⟩
    ·intro h i hi1 hi2
     exact h i (by omega) (by omega)
   ·rw [if_pos h0]
    constructor
    ·intro h;exact absurd h h0
    ·intro h
     obtain ⟨l',hl⟩:=h b (Nat.le_refl _) (by omega)
     have:=hl.of
     rw [hc] at this
     cases this
     refine absurd (jO.2 ⟨fun a ha=>⟨hl.ok a ha,fun hm=>?_⟩,hl.nd⟩) h0
     have h3:=hk _ hm
     rw [(hl.ok a ha).bk] at h3
     omega
theorem rN (m : Mem) : bU m=0↔aK m:=by
 unfold bU
 constructor
 ·intro h
  split at h
  ·rename_i hx;exact absurd h hx
  ·rename_i hx
   have hm:=(dT m).1 (Classical.not_not.1 hx)
   exact ⟨hm,fun b hb=>(jN (by simp)).1 h b (by omega) (by omega)⟩
 ·intro h
  rw [if_neg (fun hx=>hx ((dT m).2 h.mem))]
  exact (jN (by simp)).2 fun i _ hi=>h.all i (by omega)
theorem fH.r {m : Mem} {b : Nat} {l : List Int} (h : fH m b l) : (bP m b).1=l:=by unfold bP;rw [h.of]
def chL (m : Mem) (b : Nat) : List Int:=(bP m b).1
theorem aK.ch {m : Mem} (h : aK m) {b : Nat} (hb : b < m.heads.length) : fH m b (chL m b):=by
 obtain ⟨l,hl⟩:=h.all b hb
 have:=hl.r
 unfold chL
 rw [this];exact hl
theorem cW {m : Mem} (h : aK m) {b : Nat} {a : Int} (ha : a∈chL m b) : 0≤a∧a < m.slots.length:=(oL h.mem b).2 a ha
theorem fw {α β : Type} {f : α→β} : ∀ {l : List α},(l.map f).Nodup→∀ {a b : α},a∈l→b∈l→f a=f b→a=b
 | [],_,_,_,h,_,_=>by cases h
 | x :: l,hd,a,b,ha,hb,e=>by
  rw [List.map_cons,List.nodup_cons] at hd
  rcases List.mem_cons.1 ha with h1 | h1
  ·rcases List.mem_cons.1 hb with h2 | h2
   ·rw [h1,h2]
   ·exact absurd (List.mem_map.2 ⟨b,h2,by rw [← h1];exact e.symm⟩) hd.1
  ·rcases List.mem_cons.1 hb with h2 | h2
   ·exact absurd (List.mem_map.2 ⟨a,h1,by rw [← h2];exact e⟩) hd.1
   ·exact fw hd.2 h1 h2 e
theorem nO {m : Mem} {f : cI} : ∀ {n b : Nat} {acc : List cI},f∈bC m n b acc↔f∈acc∨∃ i,b≤i∧i < b + n∧∃ a∈chL m i,f=bu m a
 | 0,b,acc=>by
  simp only [bC]
  exact ⟨.inl,fun h=>h.resolve_right (by rintro ⟨i,h1,h2,_⟩;omega)⟩
 | n + 1,b,acc=>by
  rw [bC,nO (n:=n) (b:=b + 1)]
  constructor
  ·rintro (h | ⟨i,h1,h2,h3⟩)
   ·rcases List.mem_append.1 h with h | h
    ·exact .inl h
    ·obtain ⟨a,ha,e⟩:=List.mem_map.1 h
     exact .inr ⟨b,Nat.le_refl _,by omega,a,ha,e.symm⟩
   ·exact .inr ⟨i,by omega,by omega,h3⟩
  ·rintro (h | ⟨i,h1,h2,a,ha,e⟩)
   ·exact .inl (List.mem_append_left _ h)
   ·rcases Nat.lt_or_ge b i with hl | hg
    ·exact .inr ⟨i,by omega,by omega,a,ha,e⟩
    ·have : i=b:=by omega
     subst this
     exact .inl (List.mem_append_right _ (List.mem_map.2 ⟨a,ha,e.symm⟩))
theorem qv {m : Mem} {f : cI} : f∈aq m↔∃ b,b < m.heads.length∧∃ a∈chL m b,f=bu m a:=by
 unfold aq
 rw [nO]
 constructor
 ·rintro (h | ⟨i,_,h2,h3⟩)
  ·cases h
  ·exact ⟨i,by omega,h3⟩
 ·rintro ⟨b,h1,h2⟩
  exact .inr ⟨b,by omega,by omega,h2⟩
theorem jj {m : Mem} (h : aK m) {f : cI} (hf : f∈aq m) : 0≤f.slot∧f.slot < m.slots.length∧kys m f.slot=f.k∧f=bu m f.slot∧0≤bk m f.k∧bk m f.k < m.heads.length∧f.slot∈chL m (bk m f.k).toNat:=by
 obtain ⟨b,hb,a,ha,e⟩:=qv.1 hf
 have hc:=h.ch hb
 have h1:=cW h ha
 have h2:=(hc.ok a ha).bk
 have e1 : f.slot=a:=by rw [e];rfl
 have e2 : f.k=kys m a:=by rw [e];rfl
 rw [e1,e2,h2]
 refine ⟨h1.1,h1.2,rfl,e,by omega,by omega,?_⟩
 rw [show ((b : Int)).toNat=b from by omega]
 exact ha
theorem mw {m : Mem} {b : Nat} (hb : b < m.heads.length) {a : Int} (ha : a∈chL m b) : bu m a∈aq m:=qv.2 ⟨b,hb,a,ha,rfl⟩
theorem kl {m : Mem} (hm : bB m) : ∀ {n b : Nat} {acc : List cI},(bC m n b acc).length≤acc.length + n * 12
 | 0,b,acc=>by simp [bC]
 | n + 1,b,acc=>by
  rw [bC]
  have ih:=kl hm (n:=n) (b:=b + 1) (acc:=acc ++ (bP m b).1.map (bu m))
  have h1:=(oL hm b).1
  have h2:=hm.ns
  rw [List.length_append,List.length_map] at ih
  omega
theorem pC {m : Mem} (hm : bB m) : (aq m).length≤48:=by
 have:=kl hm (n:=m.heads.length) (b:=0) (acc:=[])
 have h1:=hm.nh4
 unfold aq
 simp only [List.length_nil] at this
 omega
def gk (t : Int) : List Int→Int→Int
 | [],p=>p
 | a :: l,p=>if a=t then p else gk t l (a + 1)
end Go.Proofs.Ytpmamacjepcdmaa

namespace Go.Proofs.Ytpmamacjepcdmaa
open Go Go.Sy Go.RowKit
set_option linter.unusedSimpArgs false
set_option linter.unusedVariables false
theorem jq {m : Mem} (hm : bB m) {k : Key} (hk : Key.Ok k) : 0≤bk m k∧bk m k < m.heads.length∧(aY k m.heads.length).2=0:=vr hk (by have:=hm.nh1;omega) (by have:=hm.nh4;omega)
end Go.Proofs.Ytpmamacjepcdmaa
