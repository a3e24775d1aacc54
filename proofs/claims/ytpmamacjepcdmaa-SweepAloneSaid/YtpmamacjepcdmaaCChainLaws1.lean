import Derived.Test.YtpmamacjepcdmaaCChain4
namespace Go.Proofs.Ytpmamacjepcdmaa
open Go Go.Sy Go.RowKit
set_option linter.unusedSimpArgs false
set_option linter.unusedVariables false
def kys (m : Mem) (a : Int) : Key:=(msl m a.toNat).k
structure Ab (m : Mem) (b : Int) (a : Int) : Prop where
 refs : (msl m a.toNat).refs≠0
 inn : (msl m a.toNat).inn=true
 bk : bk m (kys m a)=b
structure fH (m : Mem) (b : Nat) (l : List Int) : Prop where
 of : cQ m b=some l
 ok : ∀ a∈l,Ab m b a
 nd : (l.map (kys m)).Nodup
structure aK (m : Mem) : Prop where
 mem : bB m
 all : ∀ b : Nat,b < m.heads.length→∃ l,fH m b l
theorem qX {m : Mem} {b : Int} {ks : List Key} {a : Int} : eY m b ks a=0↔Ab m b a∧kys m a ∉ ks:=by
 unfold eY
 constructor
 ·intro h
  split at h
  ·cases h
  ·rename_i h1
   split at h
   ·cases h
   ·rename_i h2
    split at h
    ·cases h
    ·rename_i h3
     refine ⟨⟨fun e=>h1 (.inl e),?_,Classical.not_not.1 h2⟩,h3⟩
     cases hx : (msl m a.toNat).inn with
     | true=>rfl
     | false=>exact absurd (.inr hx) h1
 ·rintro ⟨⟨h1,h2,h3⟩,h4⟩
  rw [if_neg,if_neg (fun h=>h h3),if_neg (show (msl m a.toNat).k ∉ ks from h4)]
  rintro (e | e)
  ·exact h1 e
  ·rw [h2] at e;cases e
theorem jO {m : Mem} {b : Int} : ∀ {l : List Int} {ks : List Key},((bQ m b l ks).1=0↔(∀ a∈l,Ab m b a∧kys m a ∉ ks)∧(l.map (kys m)).Nodup)
 | [],ks=>by simp [bQ]
 | a :: l,ks=>by
  have ih:=jO (m:=m) (b:=b) (l:=l) (ks:=kys m a :: ks)
  simp only [bQ]
  split
  ·rename_i h
   constructor
   ·intro e;exact absurd e h
   ·intro e;exact absurd (qX.2 (e.1 a (by simp))) h
  ·rename_i h
   have h0:=qX.1 (Classical.not_not.1 h)
   show (bQ m b l (kys m a :: ks)).1=0↔_
   rw [ih]
   simp only [List.map_cons,List.nodup_cons,List.mem_cons,not_or,forall_eq_or_imp]
   constructor
   ·rintro ⟨h1,h2⟩
    refine ⟨⟨h0,fun x hx=>⟨(h1 x hx).1,(h1 x hx).2.2⟩⟩,fun hm=>?_,h2⟩
    obtain ⟨y,hy,e⟩:=List.mem_map.1 hm
    exact (h1 y hy).2.1 e
   ·rintro ⟨⟨_,h1⟩,h2,h3⟩
    exact ⟨fun x hx=>⟨(h1 x hx).1,fun e=>h2 (List.mem_map.2 ⟨x,hx,e⟩),(h1 x hx).2⟩,h3⟩
theorem pM {m : Mem} {b : Int} : ∀ {l : List Int} {ks : List Key},(bQ m b l ks).1=0→∀ k∈(bQ m b l ks).2,k∈ks∨∃ a∈l,k=kys m a
 | [],ks,_,k,hk=>.inl hk
 | a :: l,ks,h,k,hk=>by
  simp only [bQ] at h hk
  split at h
  ·rename_i hx;exact absurd h hx
  ·rename_i hx
   rw [if_neg hx] at hk
   rcases pM h k hk with h1 | ⟨x,h1,h2⟩
   ·rcases List.mem_cons.1 h1 with rfl | h1
    ·exact .inr ⟨a,by simp,rfl⟩
    ·exact .inl h1
   ·exact .inr ⟨x,by simp [h1],h2⟩
theorem jN {m : Mem} : ∀ {n b : Nat} {ks : List Key},(∀ k∈ks,bk m k < b)→(dk m n b ks=0↔∀ i,b≤i→i < b + n→∃ l,fH m i l)
 | 0,b,ks,_=>by simp only [dk,true_iff];intro i h1 h2;omega
 | n + 1,b,ks,hk=>by
  cases hc : cQ m b with
  | none =>
   rw [mF hc]
   constructor
   ·intro h;cases h
   ·intro h
    obtain ⟨l,hl⟩:=h b (Nat.le_refl _) (by omega)
    rw [hl.of] at hc;cases hc
  | some l =>
   rw [mE hc]
   by_cases h0 : (bQ m b l ks).1=0
   ·rw [if_neg (fun h=>h h0)]
    obtain ⟨h1,h2⟩:=jO.1 h0
    have ih:=jN (m:=m) (n:=n) (b:=b + 1) (ks:=(bQ m b l ks).2) fun k hk'=>by
     rcases pM h0 k hk' with h | ⟨a,ha,e⟩
     ·have:=hk k h;omega
     ·rw [e,(h1 a ha).1.bk];omega
    rw [ih]
    constructor
    ·intro h i hi1 hi2
     rcases Nat.lt_or_ge b i with hl | hg
     ·exact h i (by omega) (by omega)
     ·have : i=b:=by omega
      subst this
      exact ⟨l,hc,fun a ha=>(h1 a ha).1,h2⟩
    ·intro h i hi1 hi2
     exact h i (by omega) (by omega)
   ·rw [if_pos h0]
    constructor
    ·intro h;exact absurd h h0
    ·intro h
     obtain ⟨l',hl⟩:=h b (Nat.le_refl _) (by omega)
     have:=hl.of
     rw [hc] at this
     cases this
     refine absurd (jO.2 ⟨fun a ha=>⟨hl.ok a ha,fun hm=>?_⟩,hl.nd⟩) h0
     have h3:=hk _ hm
     rw [(hl.ok a ha).bk] at h3
     omega
theorem rN (m : Mem) : bU m=0↔aK m:=by
 unfold bU
 constructor
 ·intro h
  split at h
  ·rename_i hx;exact absurd h hx
  ·rename_i hx
   have hm:=(dT m).1 (Classical.not_not.1 hx)
   exact ⟨hm,fun b hb=>(jN (by simp)).1 h b (by omega) (by omega)⟩
 ·intro h
  rw [if_neg (fun hx=>hx ((dT m).2 h.mem))]
  exact (jN (by simp)).2 fun i _ hi=>h.all i (by omega)
theorem fH.r {m : Mem} {b : Nat} {l : List Int} (h : fH m b l) : (bP m b).1=l:=by unfold bP;rw [h.of]
def chL (m : Mem) (b : Nat) : List Int:=(bP m b).1
theorem aK.ch {m : Mem} (h : aK m) {b : Nat} (hb : b < m.heads.length) : fH m b (chL m b):=by
 obtain ⟨l,hl⟩:=h.all b hb
 have:=hl.r
 unfold chL
 rw [this];exact hl
theorem cW {m : Mem} (h : aK m) {b : Nat} {a : Int} (ha : a∈chL m b) : 0≤a∧a < m.slots.length:=(oL h.mem b).2 a ha
theorem fw {α β : Type} {f : α→β} : ∀ {l : List α},(l.map f).Nodup→∀ {a b : α},a∈l→b∈l→f a=f b→a=b
 | [],_,_,_,h,_,_=>by cases h
 | x :: l,hd,a,b,ha,hb,e=>by
  rw [List.map_cons,List.nodup_cons] at hd
  rcases List.mem_cons.1 ha with h1 | h1
  ·rcases List.mem_cons.1 hb with h2 | h2
   ·rw [h1,h2]
   ·exact absurd (List.mem_map.2 ⟨b,h2,by rw [← h1];exact e.symm⟩) hd.1
  ·rcases List.mem_cons.1 hb with h2 | h2
   ·exact absurd (List.mem_map.2 ⟨a,h1,by rw [← h2];exact e⟩) hd.1
   ·exact fw hd.2 h1 h2 e
theorem nO {m : Mem} {f : cI} : ∀ {n b : Nat} {acc : List cI},f∈bC m n b acc↔f∈acc∨∃ i,b≤i∧i < b + n∧∃ a∈chL m i,f=bu m a
 | 0,b,acc=>by
  simp only [bC]
  exact ⟨.inl,fun h=>h.resolve_right (by rintro ⟨i,h1,h2,_⟩;omega)⟩
 | n + 1,b,acc=>by
  rw [bC,nO (n:=n) (b:=b + 1)]
  constructor
  ·rintro (h | ⟨i,h1,h2,h3⟩)
   ·rcases List.mem_append.1 h with h | h
    ·exact .inl h
    ·obtain ⟨a,ha,e⟩:=List.mem_map.1 h
     exact .inr ⟨b,Nat.le_refl _,by omega,a,ha,e.symm⟩
   ·exact .inr ⟨i,by omega,by omega,h3⟩
  ·rintro (h | ⟨i,h1,h2,a,ha,e⟩)
   ·exact .inl (List.mem_append_left _ h)
   ·rcases Nat.lt_or_ge b i with hl | hg
    ·exact .inr ⟨i,by omega,by omega,a,ha,e⟩
    ·have : i=b:=by omega
     subst this
     exact .inl (List.mem_append_right _ (List.mem_map.2 ⟨a,ha,e.symm⟩))
theorem qv {m : Mem} {f : cI} : f∈aq m↔∃ b,b < m.heads.length∧∃ a∈chL m b,f=bu m a:=by
 unfold aq
 rw [nO]
 constructor
 ·rintro (h | ⟨i,_,h2,h3⟩)
  ·cases h
  ·exact ⟨i,by omega,h3⟩
 ·rintro ⟨b,h1,h2⟩
  exact .inr ⟨b,by omega,by omega,h2⟩
theorem jj {m : Mem} (h : aK m) {f : cI} (hf : f∈aq m) : 0≤f.slot∧f.slot < m.slots.length∧kys m f.slot=f.k∧f=bu m f.slot∧0≤bk m f.k∧bk m f.k < m.heads.length∧f.slot∈chL m (bk m f.k).toNat:=by
 obtain ⟨b,hb,a,ha,e⟩:=qv.1 hf
 have hc:=h.ch hb
 have h1:=cW h ha
 have h2:=(hc.ok a ha).bk
 have e1 : f.slot=a:=by rw [e];rfl
 have e2 : f.k=kys m a:=by rw [e];rfl
 rw [e1,e2,h2]
 refine ⟨h1.1,h1.2,rfl,e,by omega,by omega,?_⟩
 rw [show ((b : Int)).toNat=b from by omega]
 exact ha
theorem mw {m : Mem} {b : Nat} (hb : b < m.heads.length) {a : Int} (ha : a∈chL m b) : bu m a∈aq m:=qv.2 ⟨b,hb,a,ha,rfl⟩
theorem kl {m : Mem} (hm : bB m) : ∀ {n b : Nat} {acc : List cI},(bC m n b acc).length≤acc.length + n * 12
 | 0,b,acc=>by simp [bC]
 | n + 1,b,acc=>by
  rw [bC]
  have ih:=kl hm (n:=n) (b:=b + 1) (acc:=acc ++ (bP m b).1.map (bu m))
  have h1:=(oL hm b).1
  have h2:=hm.ns
  rw [List.length_append,List.length_map] at ih
  omega
theorem pC {m : Mem} (hm : bB m) : (aq m).length≤48:=by
 have:=kl hm (n:=m.heads.length) (b:=0) (acc:=[])
 have h1:=hm.nh4
 unfold aq
 simp only [List.length_nil] at this
 omega
def gk (t : Int) : List Int→Int→Int
 | [],p=>p
 | a :: l,p=>if a=t then p else gk t l (a + 1)
theorem Kr {m : Mem} {k : Key} {b t : Int} (hk : kys m t=k) : ∀ {l : List Int} {p : Int},(l.map (kys m)).Nodup→t∈l→Bg m k b l p=(cut m (gk t l p) t b,t,0)
 | [],_,_,h=>by cases h
 | a :: l,p,hd,h=>by
  simp only [Bg,gk]
  by_cases e : a=t
  ·subst e
   rw [if_pos (show (msl m a.toNat).k=k from hk),if_pos rfl]
  ·have hne : kys m a≠k:=fun e'=>e (fw hd (by simp) h (by rw [e',hk]))
   have ht : t∈l:=(List.mem_cons.1 h).resolve_left (fun e'=>e e'.symm)
   rw [if_neg (show (msl m a.toNat).k≠k from hne),if_neg e]
   exact Kr hk (by rw [List.map_cons,List.nodup_cons] at hd;exact hd.2) ht
theorem Jz {m : Mem} {k : Key} {b : Int} : ∀ {l : List Int} {p : Int},(∀ a∈l,kys m a≠k)→Bg m k b l p=(Mem.none,0,5)
 | [],_,_=>rfl
 | a :: l,p,h=>by
  simp only [Bg]
  rw [if_neg (show (msl m a.toNat).k≠k from h a (by simp))]
  exact Jz fun x hx=>h x (by simp [hx])
def s87 : Sig:=⟨[.ptr [.own 52 kS,.own 3 kI,.own 3 kI,.own 3 kI,.int .i64],.one (.int .i64),.one (.int .i64)],[]⟩
def d87 : DC:=⟨s87,fun l=>0≤(l.getD 5 .u).int∧(l.getD 5 .u).int < (Mem.of l).slots.length∧0≤(l.getD 6 .u).int∧(l.getD 6 .u).int < (Mem.of l).heads.length,fun l=>(link (Mem.of l) (l.getD 5 .u).int (l.getD 6 .u).int).cds⟩
theorem fn87 (m : Mem) (a b : Int) : d87.fn [au m.slots,af m.heads,af m.free,af m.locks,.i m.now,.i a,.i b]=(link m a b).cds:=by simp only [d87,mem_of,aA,List.getD_cons_zero,List.getD_cons_succ,CD.aR]
theorem pre87 {m : Mem} {a b : Int} (h1 : 0≤a) (h2 : a < m.slots.length) (h3 : 0≤b) (h4 : b < m.heads.length) : d87.pre [au m.slots,af m.heads,af m.free,af m.locks,.i m.now,.i a,.i b]:=by
 simp only [d87,mem_of,aA,List.getD_cons_zero,List.getD_cons_succ,CD.aR]
 exact ⟨h1,h2,h3,h4⟩
def l87 : List (Nat × Ct):=[]
def z87 : Cx:={ T:=ttA,C:=sigs l87,F:=[],hints:=[],sig:=s87}
def t87 : Tree :=
 (.need (.le (.int 0) (.var 5))
 (.need (.lt (.var 5) (.len (.var 0)))
 (.need (.le (.int 0) (.var 6))
 (.need (.lt (.var 6) (.len (.var 1)))
 (.need (.fit (.add (.var 5) (.int 1)))
 (.ret [.set (.set (.set (.set (.set (.set (.var 0) (.var 5) 0 (.cell (.var 0) (.var 5) 0)) (.var 5) 1 (.cell (.var 0) (.var 5) 1)) (.var 5) 2 (.cell (.var 0) (.var 5) 2)) (.var 5) 3 (.cell (.var 0) (.var 5) 3)) (.var 5) 4 (.bool true)) (.var 5) 5 (.cell (.var 1) (.var 6) 0),.set (.var 1) (.var 6) 0 (.add (.var 5) (.int 1)),.var 2,.var 3,.var 4]))))))
theorem run87 : run z87 6000 [.code (Try.f87.body.getD .skip),.fin (bt z87 Try.f87.results.toList 50)] { fn:=87,tmps:=z87.sig.aM ++ List.replicate (Try.f87.ntmps - z87.sig.aM.length) (.v (.one .undef)),stk:=[],h:=z87.sig.h0,nx:=z87.sig.ins.length,known:=[]}=t87:=by kernel_rfl
theorem ok87 : cB Try.prog 87 d87.ct:=by
 refine aD (d:=d87) (Z:=z87) (Γ:=gam l87) (fn:=Try.f87) (c:=Try.f87.body.getD .skip) (bg tok mixed all_nil bh) Try.func87 (by kernel_rfl) (by kernel_rfl) rfl run87 fun E hk hp=>?_
 obtain ⟨hk0,hk1,hk2,hk3,hk4,hk5,hk6,_⟩:=hk
 obtain ⟨m,e0,e1,e2,e3,e4,b0,b1,b2,b3⟩:=cv (d0:=E 0) (d1:=E 1) (d2:=E 2) (d3:=E 3) (d4:=E 4) hk0 hk1 hk2 hk3 hk4
 obtain ⟨x,e5⟩:=ok_int (d:=E 5) hk5
 obtain ⟨x2,e6⟩:=ok_int (d:=E 6) hk6
 have el : aH E d87.sig.ins.length=[au m.slots,af m.heads,af m.free,af m.locks,.i m.now,.i x,.i x2]:=by
  show [E 0,E 1,E 2,E 3,E 4,E 5,E 6]=_
  rw [e0,e1,e2,e3,e4,e5,e6]
 rw [el] at hp
 rw [el]
 rw [Env.bJ el]
 clear el e0 e1 e2 e3 e4 e5 e6
 rw [fn87]
 simp only [d87,mem_of,aA,List.getD_cons_zero,List.getD_cons_succ,CD.aR] at hp
 obtain ⟨h1,h2,h3,h4⟩:=hp
 unfold t87
 have r0 : ((au m.slots).rows.getD x.toNat []).getD 0 .u=.i (msl m x.toNat).refs:=KW (by omega)
 have r1 : ((au m.slots).rows.getD x.toNat []).getD 1 .u=.i (msl m x.toNat).k.a:=qc (by omega)
 have r2 : ((au m.slots).rows.getD x.toNat []).getD 2 .u=.i (msl m x.toNat).k.b:=qb (by omega)
 have r3 : ((au m.slots).rows.getD x.toNat []).getD 3 .u=.i (msl m x.toNat).till:=FO (by omega)
 refine ag (by simp only [nrm,xdn,reduceIte,Nat.reduceLT,Nat.reduceSub,Nat.reduceAdd];omega) (ag (by simp only [nrm,xdn,reduceIte,Nat.reduceLT,Nat.reduceSub,Nat.reduceAdd,aN];omega) (ag (by simp only [nrm,xdn,reduceIte,Nat.reduceLT,Nat.reduceSub,Nat.reduceAdd];omega) (ag (by simp only [nrm,xdn,reduceIte,Nat.reduceLT,Nat.reduceSub,Nat.reduceAdd,aw];omega) (G1 (by simp only [nrm,xdn,reduceIte,Nat.reduceLT,Nat.reduceSub,Nat.reduceAdd];omega) (aj ?_)))))
 simp only [nrm,xdn,reduceIte,Nat.reduceLT,Nat.reduceSub,Nat.reduceAdd,r0,r1,r2,r3,iK (show x2.toNat < m.heads.length by omega),vI,FM,FL,FK,CV,CW,iG,aC,Mem.cds]
 rw [Hw (fun s : bp=>(⟨(msl m x.toNat).refs,⟨(msl m x.toNat).k.a,(msl m x.toNat).k.b⟩,(msl m x.toNat).till,true,m.heads.getD x2.toNat 0⟩ : bp)) (jc (aO m x2)) m.slots x.toNat rfl]
 rfl
def s89 : Sig:=⟨[.ptr [.own 52 kS,.own 3 kI,.own 3 kI,.own 3 kI,.int .i64],.one (.int .i64),.one (.int .i64),.one (.int .i64)],[]⟩
def d89 : DC:=⟨s89,fun l=>0≤(l.getD 5 .u).int∧(l.getD 5 .u).int≤(Mem.of l).slots.length∧0≤(l.getD 6 .u).int∧(l.getD 6 .u).int < (Mem.of l).slots.length∧0≤(l.getD 7 .u).int∧(l.getD 7 .u).int < (Mem.of l).heads.length,fun l=>(cut (Mem.of l) (l.getD 5 .u).int (l.getD 6 .u).int (l.getD 7 .u).int).cds⟩
theorem fn89 (m : Mem) (p a b : Int) : d89.fn [au m.slots,af m.heads,af m.free,af m.locks,.i m.now,.i p,.i a,.i b]=(cut m p a b).cds:=by simp only [d89,mem_of,aA,List.getD_cons_zero,List.getD_cons_succ,CD.aR]
theorem pre89 {m : Mem} {p a b : Int} (h0 : 0≤p) (h1 : p≤m.slots.length) (h2 : 0≤a) (h3 : a < m.slots.length) (h4 : 0≤b) (h5 : b < m.heads.length) : d89.pre [au m.slots,af m.heads,af m.free,af m.locks,.i m.now,.i p,.i a,.i b]:=by
 simp only [d89,mem_of,aA,List.getD_cons_zero,List.getD_cons_succ,CD.aR]
 exact ⟨h0,h1,h2,h3,h4,h5⟩
def l89 : List (Nat × Ct):=[]
def z89 : Cx:={ T:=ttA,C:=sigs l89,F:=[],hints:=[],sig:=s89}
def t89 : Tree :=
 (.need (.le (.int 0) (.var 6))
 (.need (.lt (.var 6) (.len (.var 0)))
 (.ite (.eq (.var 5) (.int 0))
 (.need (.le (.int 0) (.var 7))
 (.need (.lt (.var 7) (.len (.var 1)))
 (.ret [.var 0,.set (.var 1) (.var 7) 0 (.cell (.var 0) (.var 6) 5),.var 2,.var 3,.var 4])))
 (.need (.fit (.sub (.var 5) (.int 1)))
 (.need (.le (.int 0) (.sub (.var 5) (.int 1)))
 (.need (.lt (.sub (.var 5) (.int 1)) (.len (.var 0)))
 (.ret [.set (.var 0) (.sub (.var 5) (.int 1)) 5 (.cell (.var 0) (.var 6) 5),.var 1,.var 2,.var 3,.var 4])))))))
theorem run89 : run z89 6000 [.code (Try.f89.body.getD .skip),.fin (bt z89 Try.f89.results.toList 50)] { fn:=89,tmps:=z89.sig.aM ++ List.replicate (Try.f89.ntmps - z89.sig.aM.length) (.v (.one .undef)),stk:=[],h:=z89.sig.h0,nx:=z89.sig.ins.length,known:=[]}=t89:=by kernel_rfl
theorem ok89 : cB Try.prog 89 d89.ct:=by
 refine aD (d:=d89) (Z:=z89) (Γ:=gam l89) (fn:=Try.f89) (c:=Try.f89.body.getD .skip) (bg tok mixed all_nil bh) Try.func89 (by kernel_rfl) (by kernel_rfl) rfl run89 fun E hk hp=>?_
 obtain ⟨hk0,hk1,hk2,hk3,hk4,hk5,hk6,hk7,_⟩:=hk
 obtain ⟨m,e0,e1,e2,e3,e4,b0,b1,b2,b3⟩:=cv (d0:=E 0) (d1:=E 1) (d2:=E 2) (d3:=E 3) (d4:=E 4) hk0 hk1 hk2 hk3 hk4
 obtain ⟨x,e5⟩:=ok_int (d:=E 5) hk5
 obtain ⟨x2,e6⟩:=ok_int (d:=E 6) hk6
 obtain ⟨x3,e7⟩:=ok_int (d:=E 7) hk7
 have el : aH E d89.sig.ins.length=[au m.slots,af m.heads,af m.free,af m.locks,.i m.now,.i x,.i x2,.i x3]:=by
  show [E 0,E 1,E 2,E 3,E 4,E 5,E 6,E 7]=_
  rw [e0,e1,e2,e3,e4,e5,e6,e7]
 rw [el] at hp
 rw [el]
 rw [Env.bJ el]
 clear el e0 e1 e2 e3 e4 e5 e6 e7
 rw [fn89]
 simp only [d89,mem_of,aA,List.getD_cons_zero,List.getD_cons_succ,CD.aR] at hp
 obtain ⟨h0,h1,h2,h3,h4,h5⟩:=hp
 have hn : ((au m.slots).rows.getD x2.toNat []).getD 5 .u=.i (msl m x2.toNat).next:=qa (by omega)
 unfold cut
 unfold t89
 refine ag (by simp only [nrm,xdn,reduceIte,Nat.reduceLT,Nat.reduceSub,Nat.reduceAdd];omega) (ag (by simp only [nrm,xdn,reduceIte,Nat.reduceLT,Nat.reduceSub,Nat.reduceAdd,aN];omega) (G0 (fun h=>?_) (fun h=>?_)))
 ·simp only [nrm,xdn,reduceIte,Nat.reduceLT,Nat.reduceSub,Nat.reduceAdd] at h
  rw [if_neg (by omega)]
  refine ag (by simp only [nrm,xdn,reduceIte,Nat.reduceLT,Nat.reduceSub,Nat.reduceAdd];omega) (ag (by simp only [nrm,xdn,reduceIte,Nat.reduceLT,Nat.reduceSub,Nat.reduceAdd,aw];omega) (aj ?_))
  simp only [nrm,xdn,reduceIte,Nat.reduceLT,Nat.reduceSub,Nat.reduceAdd,hn,iG,Mem.cds]
 ·simp only [nrm,xdn,reduceIte,Nat.reduceLT,Nat.reduceSub,Nat.reduceAdd] at h
  rw [if_pos (by omega)]
  refine G1 (by simp only [nrm,xdn,reduceIte,Nat.reduceLT,Nat.reduceSub,Nat.reduceAdd];omega) (ag (by simp only [nrm,xdn,reduceIte,Nat.reduceLT,Nat.reduceSub,Nat.reduceAdd];omega) (ag (by simp only [nrm,xdn,reduceIte,Nat.reduceLT,Nat.reduceSub,Nat.reduceAdd,aN];omega) (aj ?_)))
  simp only [nrm,xdn,reduceIte,Nat.reduceLT,Nat.reduceSub,Nat.reduceAdd,hn,CV,Mem.cds]
  rfl
end Go.Proofs.Ytpmamacjepcdmaa

namespace Go.Proofs.Ytpmamacjepcdmaa
open Go Go.Sy Go.RowKit
set_option linter.unusedSimpArgs false
set_option linter.unusedVariables false
theorem He {l : List cI} {i : Nat} (h : i < l.length) : l.getD i default∈l:=by
 rw [List.getD_eq_getElem?_getD,List.getElem?_eq_getElem h,Option.getD_some];exact List.getElem_mem h
theorem HQ {l : List cI} {f : cI} (h : f∈l) : ∃ i,i < l.length∧f=l.getD i default:=by
 obtain ⟨i,hi,e⟩:=List.getElem_of_mem h
 exact ⟨i,hi,by rw [List.getD_eq_getElem?_getD,List.getElem?_eq_getElem hi,Option.getD_some,e]⟩
theorem HW {k j : Key} (h1 : k.a=j.a) (h2 : k.b=j.b) : k=j:=by
 cases k;cases j;simp only at h1 h2;rw [h1,h2]
theorem Ii {l : List Int} {j : Nat} (h : j < l.length) : l.drop j=l.getD j 0 :: l.drop (j + 1):=dL h
theorem FW {m : Mem} (hC : aK m) {k : Key} (h : ∀ i,i < (aq m).length→((aq m).getD i default).k≠k) {b : Nat} (hb : b < m.heads.length) : ∀ a∈chL m b,kys m a≠k:=fun a ha e=>by
 obtain ⟨i,hi,e'⟩:=HQ (mw hb ha)
 exact h i hi (by rw [← e'];exact e)
theorem jq {m : Mem} (hm : bB m) {k : Key} (hk : Key.Ok k) : 0≤bk m k∧bk m k < m.heads.length∧(aY k m.heads.length).2=0:=vr hk (by have:=hm.nh1;omega) (by have:=hm.nh4;omega)
theorem HM {m : Mem} (hC : aK m) {k : Key} (hk : Key.Ok k) (h : ∀ i,i < (aq m).length→((aq m).getD i default).k≠k) : EA m k=(Mem.none,0,5):=by
 obtain ⟨h1,h2,h3⟩:=jq hC.mem hk
 unfold EA
 rw [if_neg (fun hx=>hx ((rN m).2 hC)),if_neg (fun hx=>hx h3)]
 refine Jz ?_
 have:=FW hC h (b:=(bk m k).toNat) (by omega)
 unfold chL at this
 rwa [show (((bk m k).toNat : Nat) : Int)=bk m k from by omega] at this
theorem Hy {m : Mem} (hC : aK m) {f : cI} (hf : f∈aq m) (hk : Key.Ok f.k) : EA m f.k=(cut m (gk f.slot (chL m (bk m f.k).toNat) 0) f.slot (bk m f.k),f.slot,0):=by
 obtain ⟨h1,h2,h3⟩:=jq hC.mem hk
 obtain ⟨_,_,g3,_,_,_,g7⟩:=jj hC hf
 unfold EA
 rw [if_neg (fun hx=>hx ((rN m).2 hC)),if_neg (fun hx=>hx h3)]
 have hc:=hC.ch (b:=(bk m f.k).toNat) (by omega)
 have:=Kr (b:=bk m f.k) (p:=0) g3 hc.nd g7
 unfold chL at this ⊢
 rw [show (((bk m f.k).toNat : Nat) : Int)=bk m f.k from by omega] at this ⊢
 exact this
theorem KZ {m : Mem} (hC : aK m) {a : Int} (h1 : 0≤a) (h2 : a < m.slots.length) (h3 : (msl m a.toNat).refs≠0) {f : cI} (hf : f∈aq m) (hk : f.k=kys m a) : linked m a=(Mem.none,6):=by
 unfold linked
 rw [if_neg (fun hx=>hx ((rN m).2 hC)),if_neg (by omega),if_neg h3,if_pos]
 obtain ⟨_,_,g3,_,g5,_,g7⟩:=jj hC hf
 rw [hk] at g5 g7
 refine List.any_eq_true.2 ⟨f.slot,?_,decide_eq_true (.inr (by rw [hk] at g3;exact g3))⟩
 unfold chL at g7
 rw [show (((bk m (kys m a)).toNat : Nat) : Int)=bk m (kys m a) from by omega] at g7
 exact g7
theorem Kl {m : Mem} (hC : aK m) {a : Int} (h1 : 0≤a) (h2 : a < m.slots.length) (h3 : (msl m a.toNat).refs≠0) (h : ∀ i,i < (aq m).length→((aq m).getD i default).k≠kys m a) : linked m a=(link m a (bk m (kys m a)),0):=by
 unfold linked
 rw [if_neg (fun hx=>hx ((rN m).2 hC)),if_neg (by omega),if_neg h3,if_neg]
 ·rfl
 ·have hk:=(hC.mem.sl (i:=a.toNat) (by omega)).k
  obtain ⟨b1,b2,b3⟩:=jq hC.mem hk
  have hn:=FW hC h (b:=(bk m (kys m a)).toNat) (by show (bk m (msl m a.toNat).k).toNat < _;omega)
  unfold chL at hn
  rw [show (((bk m (kys m a)).toNat : Nat) : Int)=bk m (kys m a) from by show (((bk m (msl m a.toNat).k).toNat : Nat) : Int)=bk m (msl m a.toNat).k;omega] at hn
  intro hx
  obtain ⟨c,hc,e⟩:=List.any_eq_true.1 hx
  rcases of_decide_eq_true e with e | e
  ·rw [e] at hc;exact hn a hc rfl
  ·exact hn c hc e
end Go.Proofs.Ytpmamacjepcdmaa
