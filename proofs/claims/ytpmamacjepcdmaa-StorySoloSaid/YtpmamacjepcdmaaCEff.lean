import Derived.Test.YtpmamacjepcdmaaCInv5
import Derived.Test.YtpmamacjepcdmaaCPlayed
import Derived.Test.YtpmamacjepcdmaaCInv2
namespace Go.Proofs.Ytpmamacjepcdmaa
open Go Go.Sy Go.RowKit
set_option linter.unusedSimpArgs false
set_option linter.unusedVariables false
theorem eI {P : Prop} (h : (!true)=true) : P:=by cases h
theorem py {w : Wrd} {y : Mem} {x : Int} {F : Tsk→Tsk} (h : HE w) (hx0 : 0≤x) (hx : x < w.ts.length) (hy : y.heads.length=w.m.heads.length) (hl : y.ae=w.m.ae) (hno : (F (tsk w x)).busy=true→¬ bI (F (tsk w x)).f) : HE ⟨y,w.ts.modify x.toNat F⟩:=by
 intro t t0 t9 tb th
 have t1 : t < w.ts.length:=by simpa using t9
 clear t9
 rw [eT hx0 hx t0] at tb th
 show y.ae.getD (aa y (tsk ⟨y,w.ts.modify x.toNat F⟩ t).f.c).toNat 0=t
 rw [eT hx0 hx t0,ck _ hy,hl]
 by_cases e : t=x
 ·rw [if_pos e] at tb th
  exact absurd th (hno tb)
 ·rw [if_neg e] at tb th ⊢
  exact h t t0 t1 tb th
theorem FI.kU {m : Mem} {f : Frm} (hk : f.c.kind=1) (h0 : f.pc≤6∧(4≤f.pc→0≤f.slot)∧(f.pc≤3→f.slot=-1)) : FI m f :=
 ⟨fun _=>h0,fun k=>by omega,fun k=>by omega,fun k=>by omega,fun k=>by omega,fun k=>by omega,fun k=>by omega,fun k=>by omega,fun k=>by omega,fun k=>by omega,fun k=>by omega⟩
theorem zv {m : Mem} {f : Frm} : (ar m f).1.c=f.c:=by
 unfold ar
 repeat' split
 all_goals rfl
theorem Dx {w : Wrd} (h : Inv w) {x : Int} (hx0 : 0≤x) (hx : x < w.ts.length) (hb : (tsk w x).busy=true) (hk : (tsk w x).f.c.kind=1) :
  Inv (if (ar w.m (tsk w x).f).1.done=true∧(ar w.m (tsk w x).f).1.e=0 then
   (⟨(ar w.m (tsk w x).f).2,w.ts.modify x.toNat fun t=>{ t with busy:=!(ar w.m (tsk w x).f).1.done,f:=(ar w.m (tsk w x).f).1,held:=(tsk w x).held ++ [(ar w.m (tsk w x).f).1.slot]}⟩ : Wrd)
  else w.gone x (ar w.m (tsk w x).f)):=by
 obtain ⟨hf,hF,hd⟩:=fe h hx0 hx hb
 have hm:=h.ch.mem.rJ
 have hto:=mg (m:=w.m) (f:=(tsk w x).f)
 have hfo : (ar w.m (tsk w x).f).1.done=false→bV (ar w.m (tsk w x).f).2 (ar w.m (tsk w x).f).1:=fun hd'=>(qV hm hf hk).ok hf hto.1 hd'
 have hho:=h.hd _ (Hf hx0 hx)
 have hc1 : (ar w.m (tsk w x).f).1.c=(tsk w x).f.c:=zv
 have hlk : ∀ F : Tsk→Tsk,dW ⟨(ar w.m (tsk w x).f).2,w.ts.modify x.toNat F⟩:=fun F=>kZ h.lk hx0 hx hto.1.hl hto.2.2.2 fun y=>vS (.inl hk) y.2
 have hlk2 : ∀ F : Tsk→Tsk,(F (tsk w x)).f=(ar w.m (tsk w x).f).1→HE ⟨(ar w.m (tsk w x).f).2,w.ts.modify x.toNat F⟩:=fun F e=>py h.lk2 hx0 hx hto.1.hl hto.2.2.2 fun _=>by rw [e];exact vS (.inl (by rw [hc1];exact hk))
 rw [ln]
 have hlk2s:=hlk2 (stepT (ar w.m (tsk w x).f).1) rfl
 have hlks:=hlk (stepT (ar w.m (tsk w x).f).1)
 have hlk2:=hlk2 (fun t=>{ t with busy:=!(ar w.m (tsk w x).f).1.done,f:=(ar w.m (tsk w x).f).1,held:=(tsk w x).held ++ [(ar w.m (tsk w x).f).1.slot]}) rfl
 have hlk:=hlk (fun t=>{ t with busy:=!(ar w.m (tsk w x).f).1.done,f:=(ar w.m (tsk w x).f).1,held:=(tsk w x).held ++ [(ar w.m (tsk w x).f).1.slot]})
 have p0:=hf.pc0
 obtain ⟨A1,A2,A3⟩:=hF.look hk
 clear hto
 generalize hr : ar w.m (tsk w x).f=r at *
 obtain ⟨f,hfe⟩ : ∃ f,(tsk w x).f=f:=⟨_,rfl⟩
 rw [hfe] at hf hF hd hk hr p0 A1 A2 A3 hc1
 have hnk : r.1.c.kind≠2:=by rw [hc1,hk];decide
 have hho2 : gP w.m.slots.length (stepT r.1 (tsk w x)):=kg hho fun _ _=>⟨hb,by rw [hfe];exact hk⟩
 have busy' : (stepT r.1 (tsk w x)).busy=true→r.1.done=false:=fun hb'=>by simpa [stepT] using hb'
 have lrfl : w.m={ w.m with ae:=w.m.ae}:=rfl
 have n7 : cr (tsk w x)=f.slot:=by rw [dj hb (by rw [hfe];omega),hfe]
 have hs : r.1.done=false→cr (stepT r.1 (tsk w x))=r.1.slot:=fun hd'=>dI _ hd' fun p=>hnk p.1
 have hcr:=hf.cur1
 have hs1:=hf.slot1
 unfold ar at hr
 by_cases e0 : f.pc=0
 ·rw [if_pos e0] at hr
  subst hr
  rw [if_neg (fun p=>by rw [show _=false from hd] at p;cases p.1)]
  exact aP h hx0 hx hb lrfl rfl hlks hlk2s hfo hho2 ((hs hd).trans n7.symm) (fun ha=>absurd ha (cf hnk)) fun _=>FI.kU hk ⟨by simp,by simp,fun _=>A3 (by omega)⟩
 rw [if_neg e0] at hr
 by_cases e1 : f.pc=1∧0 < f.cur
 ·rw [if_pos e1] at hr
  subst hr
  rw [if_neg (fun p=>by rw [show _=false from hd] at p;cases p.1)]
  exact aP h hx0 hx hb lrfl rfl hlks hlk2s hfo hho2 ((hs hd).trans n7.symm) (fun ha=>absurd ha (cf hnk)) fun _=>FI.kU hk ⟨by simp only;split <;> omega,fun p=>by simp only at p;split at p <;> omega,fun _=>A3 (by omega)⟩
 rw [if_neg e1] at hr
 by_cases e2 : f.pc=1∧f.cur=-1 - aa w.m f.c
 ·rw [if_pos e2] at hr
  subst hr
  rw [if_neg (fun p=>by have p : (5 : Int)=0:=p.2;omega)]
  exact aP h hx0 hx hb lrfl rfl hlks hlk2s hfo hho2 (by rw [n7,fU _ rfl,A3 (by omega)]) (fun ha=>absurd ha (cf hnk)) fun hd'=>by cases hd'
 rw [if_neg e2] at hr
 by_cases e3 : f.pc=2∧0 < f.cur
 ·rw [if_pos e3] at hr
  subst hr
  rw [if_neg (fun p=>by rw [show _=false from hd] at p;cases p.1)]
  exact aP h hx0 hx hb lrfl rfl hlks hlk2s hfo hho2 ((hs hd).trans n7.symm) (fun ha=>absurd ha (cf hnk)) fun _=>FI.kU hk ⟨by simp,by simp,fun _=>A3 (by omega)⟩
 rw [if_neg e3] at hr
 by_cases e4 : f.pc=3∧0 < f.cur
 ·rw [if_pos e4] at hr
  rcases oD w.m (f.cur - 1) with ⟨k1,k2⟩ | ⟨k1,k2⟩
  ·rw [k1,if_neg (by decide)] at hr
   subst hr
   rw [if_neg (fun p=>by rw [show _=false from hd] at p;cases p.1)]
   exact aP h hx0 hx hb lrfl rfl hlks hlk2s hfo hho2 ((hs hd).trans n7.symm) (fun ha=>absurd ha (cf hnk)) fun _=>FI.kU hk ⟨by simp,by simp,fun _=>A3 (by omega)⟩
  ·rw [k1,if_pos rfl] at hr
   obtain ⟨y,hy⟩ : ∃ y,(hold w.m (f.cur - 1)).1=y:=⟨_,rfl⟩
   have hyo:=we h.ch.mem (a:=f.cur - 1) (by omega) (by omega)
   have hr0 : 0≤(msl w.m (f.cur - 1).toNat).refs:=by
    have:=h.ch.mem.sl (i:=(f.cur - 1).toNat) (by omega)
    exact this.r0
   rw [hy] at hr k2 hyo
   subst hr
   rw [if_neg (fun p=>by rw [show _=false from hd] at p;cases p.1)]
   refine h.refs hx0 hx (a:=f.cur - 1) (d:=1) (by omega) (by omega) hyo (by rw [k2]) (by rw [k2]) (by rw [k2]) (fun _=>by omega) hlks hlk2s (fun hb'=>⟨hfo (busy' hb'),FI.kU hk ⟨by show (4 : Int)≤6;omega,fun _=>by show 0≤f.cur - 1;omega,fun p=>by have p : (4 : Int)≤3:=p;omega⟩⟩) (cf hnk) hho2 fun k=>?_
   rw [cu (hs hd),cu n7,A3 (by omega),if_neg (show ¬ (-1 : Int)=k by omega)]
   show ((tsk w x).held.count (k : Int) : Int) + (if f.cur - 1=k then 1 else 0)=_
   by_cases ek : f.cur - 1=k
   ·rw [if_pos ek,if_pos ek.symm];omega
   ·rw [if_neg ek,if_neg (fun p=>ek p.symm)];omega
 rw [if_neg e4] at hr
 by_cases e5 : f.pc=4∧0≤f.slot
 ·rw [if_pos e5] at hr
  split at hr
  ·subst hr
   rw [if_neg (fun p=>by rw [show _=false from hd] at p;cases p.1)]
   exact aP h hx0 hx hb lrfl rfl hlks hlk2s hfo hho2 ((hs hd).trans n7.symm) (fun ha=>absurd ha (cf hnk)) fun _=>FI.kU hk ⟨by simp,fun _=>e5.2,by simp⟩
  ·split at hr
   ·subst hr
    rw [if_neg (fun p=>by rw [show _=false from hd] at p;cases p.1)]
    exact aP h hx0 hx hb lrfl rfl hlks hlk2s hfo hho2 ((hs hd).trans n7.symm) (fun ha=>absurd ha (cf hnk)) fun _=>FI.kU hk ⟨by simp,fun _=>e5.2,by simp⟩
   ·subst hr
    rw [if_pos ⟨rfl,rfl⟩]
    refine h.quiet hx0 hx lrfl rfl hlk hlk2 (fun hb'=>eI hb') (fun ha=>eI ha.1) ⟨?_,fun hb'=>eI hb',fun a ha=>?_⟩ fun k=>?_
    ·have:=hho.2.1 hb (by rw [hfe];exact hk)
     show ((tsk w x).held ++ [f.slot]).length≤100
     simp only [List.length_append,List.length_cons,List.length_nil];omega
    ·rcases List.mem_append.1 ha with ha | ha
     ·exact hho.2.2 a ha
     ·rw [List.mem_singleton.1 ha]
      exact ⟨e5.2,by show f.slot < _;omega⟩
    ·rw [cu n7,cu (a:=-1) (if_neg fun p=>eI p.1),if_neg (show ¬ (-1 : Int)=k by omega)]
     show (((tsk w x).held ++ [f.slot]).count (k : Int) : Int) + 0=_
     rw [List.count_append,List.count_singleton]
     by_cases ek : f.slot=k
     ·rw [if_pos ek];simp [ek]
     ·rw [if_neg ek];simp [ek]
 rw [if_neg e5] at hr
 by_cases e6 : f.pc=5∧0≤f.slot
 ·rw [if_pos e6] at hr
  have hsl:=e6.2
  have ha1 : f.slot < w.m.slots.length:=by omega
  have hre:=Hg h hx0 hx (a:=f.slot) n7 hsl ha1
  obtain ⟨u1,u2,u3,_⟩:=fQ (m:=w.m) (a:=f.slot) (by omega)
  subst hr
  rw [if_neg (fun p=>by rw [show _=false from hd] at p;cases p.1)]
  refine h.refs hx0 hx hsl ha1 (iY h.ch.mem hsl ha1) u1 u2 u3 (fun ⟨b,hb1,hb2⟩=>by have:=HU hb1 hb2;omega) hlks hlk2s (fun hb'=>⟨hfo (busy' hb'),FI.kU hk ⟨by show (0 : Int)≤6;omega,fun p=>by have p : (4 : Int)≤0:=p;omega,fun _=>rfl⟩⟩) (cf hnk) hho2 fun k=>?_
  rw [cu (hs hd),cu n7]
  show ((tsk w x).held.count (k : Int) : Int) + (if (-1 : Int)=k then 1 else 0)=_
  rw [if_neg (show ¬ (-1 : Int)=k by omega)]
  by_cases ek2 : f.slot=k
  ·rw [if_pos ek2,if_pos ek2.symm];omega
  ·rw [if_neg ek2,if_neg (fun e=>ek2 e.symm)];omega
 rw [if_neg e6] at hr
 by_cases e7 : f.pc=6∧0≤f.slot
 ·rw [if_pos e7] at hr
  have hsl:=e7.2
  have ha1 : f.slot < w.m.slots.length:=by omega
  have hre:=Hg h hx0 hx (a:=f.slot) n7 hsl ha1
  obtain ⟨u1,u2,u3,_⟩:=fQ (m:=w.m) (a:=f.slot) (by omega)
  subst hr
  rw [if_neg (fun p=>by have p : (5 : Int)=0:=p.2;omega)]
  refine h.refs hx0 hx hsl ha1 (iY h.ch.mem hsl ha1) u1 u2 u3 (fun ⟨b,hb1,hb2⟩=>by have:=HU hb1 hb2;omega) hlks hlk2s (fun hb'=>by cases busy' hb') (cf hnk) hho2 fun k=>?_
  rw [cu (fU _ rfl),cu n7,if_neg (show ¬ (-1 : Int)=k by omega)]
  show ((tsk w x).held.count (k : Int) : Int) + 0=_
  by_cases ek2 : f.slot=k
  ·rw [if_pos ek2,if_pos ek2.symm];omega
  ·rw [if_neg ek2,if_neg (fun e=>ek2 e.symm)];omega
 rw [if_neg e7] at hr
 subst hr
 rw [if_neg (fun p=>by rw [show _=false from hd] at p;cases p.1)]
 have hlow : f.pc≤3:=by
  rcases Int.lt_or_le 3 f.pc with h3 | h3
  ·have:=A2 (by omega);omega
  ·exact h3
 exact aP h hx0 hx hb lrfl rfl hlks hlk2s hfo hho2 ((hs hd).trans n7.symm) (fun ha=>absurd ha (cf hnk)) fun _=>FI.kU hk ⟨by simp,by simp,fun _=>A3 hlow⟩
theorem lf {x : Int} : ∀ {l : List Int} {i : Nat},0≤indexOf x l i→∃ j : Nat,indexOf x l i=i + j∧∃ l1 l2,l=l1 ++ x :: l2∧l1.length=j
 | [],i,h=>by
  have h : (0 : Int)≤-1:=h
  omega
 | a :: l,i,h=>by
  simp only [indexOf] at h ⊢
  by_cases e : x=a
  ·rw [if_pos e]
   exact ⟨0,by simp,[],l,by rw [e];rfl,rfl⟩
  ·rw [if_neg e] at h ⊢
   obtain ⟨j,h1,l1,l2,h2,h3⟩:=lf h
   exact ⟨j + 1,by rw [h1];omega,a :: l1,l2,by rw [h2];rfl,by simp [h3]⟩
theorem B4 {w : Wrd} (h : Inv w) {x : Int} (hx0 : 0≤x) (hx : x < w.ts.length) (hb : (tsk w x).busy=true) (hk : (tsk w x).f.c.kind=6) :
  Inv (if 0≤indexOf (tsk w x).f.c.slot (tsk w x).held 0 then
   (⟨put w.m (tsk w x).f.c.slot,w.ts.modify x.toNat fun t=>{ t with busy:=!(ay (tsk w x).f 0).done,f:=ay (tsk w x).f 0,held:=(tsk w x).held.take (indexOf (tsk w x).f.c.slot (tsk w x).held 0).toNat ++ (tsk w x).held.drop ((indexOf (tsk w x).f.c.slot (tsk w x).held 0) + 1).toNat}⟩ : Wrd)
  else w.gone x (ay (tsk w x).f 0,w.m)):=by
 obtain ⟨hf,hF,hd⟩:=fe h hx0 hx hb
 obtain ⟨A1,A2⟩:=hF.leave hk
 have hho:=h.hd _ (Hf hx0 hx)
 have n7 : cr (tsk w x)=-1:=by rw [dj hb (by omega),A1]
 have hno : ¬ ((tsk w x).busy=true∧bI (tsk w x).f):=fun y=>vS (.inr hk) y.2
 split
 ·rename_i hi
  obtain ⟨j,h1,l1,l2,h2,h3⟩:=lf hi
  obtain ⟨s,hs⟩ : ∃ s,(tsk w x).f.c.slot=s:=⟨_,rfl⟩
  rw [hs] at h1 h2 ⊢
  rw [h1]
  have hin : s∈(tsk w x).held:=by rw [h2];simp
  obtain ⟨s0,s1⟩:=hho.2.2 s hin
  have e1 : (tsk w x).held.take (((0 : Nat) : Int) + j).toNat ++ (tsk w x).held.drop (((0 : Nat) : Int) + j + 1).toNat=l1 ++ l2:=by
   rw [show (((0 : Nat) : Int) + j).toNat=j by omega,show (((0 : Nat) : Int) + j + 1).toNat=j + 1 by omega,h2,← h3]
   simp
  rw [e1]
  have hc : (1 : Int)≤((tsk w x).held.count s : Int):=by
   have:=List.count_pos_iff.2 hin
   omega
  have hre : (fK w.m s : Int) + 1≤(msl w.m s.toNat).refs:=by
   have q1:=h.rf s.toNat (by omega)
   have q2:=vD (k:=s) (Hf hx0 hx)
   rw [show ((s.toNat : Nat) : Int)=s by omega] at q1
   have q3 : 1≤fv s (tsk w x):=by rw [cu n7];split <;> omega
   omega
  obtain ⟨u1,u2,u3,_⟩:=fQ (m:=w.m) (a:=s) (by omega)
  refine h.refs hx0 hx s0 s1 (iY h.ch.mem s0 s1) u1 u2 u3 (fun ⟨b,hb1,hb2⟩=>by have:=HU hb1 hb2;omega) (kZ h.lk hx0 hx (by rw [u2]) u3 hno) (py h.lk2 hx0 hx (by rw [u2]) u3 fun hb'=>eI hb') (fun hb'=>eI hb') (fun ha=>eI ha.1) ⟨?_,fun hb'=>eI hb',fun a ha=>?_⟩ fun k=>?_
  ·show (l1 ++ l2).length≤100
   have:=hho.1
   rw [h2] at this
   simp only [List.length_append,List.length_cons] at this ⊢
   omega
  ·refine hho.2.2 a ?_
   rw [h2]
   rcases List.mem_append.1 (show a∈l1 ++ l2 from ha) with h | h
   ·exact List.mem_append_left _ h
   ·exact List.mem_append_right _ (List.mem_cons_of_mem _ h)
  ·rw [cu n7,cu (a:=-1) (if_neg fun p=>eI p.1),if_neg (show ¬ (-1 : Int)=k by omega)]
   show ((l1 ++ l2).count (k : Int) : Int) + 0=_
   rw [h2,List.count_append,List.count_append,List.count_cons]
   by_cases ek : (k : Int)=s
   ·rw [if_pos ek];simp [ek];omega
   ·have ek' : ¬ s=(k : Int):=fun p=>ek p.symm
    rw [if_neg ek];simp [ek']
 ·rw [ln]
  have lrfl : w.m={ w.m with ae:=w.m.ae}:=rfl
  exact aP h hx0 hx hb lrfl rfl (kZ h.lk hx0 hx rfl rfl hno) (py h.lk2 hx0 hx rfl rfl fun hb'=>eI hb') (fun hd'=>by cases hd') (kg hho fun hd'=>by cases hd') (by rw [n7];exact fU _ rfl) (fun ha=>eI ha.1) fun hd'=>by cases hd'
end Go.Proofs.Ytpmamacjepcdmaa

namespace Go.Proofs.Ytpmamacjepcdmaa
open Go Go.Sy Go.RowKit
set_option linter.unusedSimpArgs false
set_option linter.unusedVariables false
theorem FI.new {m : Mem} (c : Cal) : FI m (aX c) :=
 ⟨fun _=>⟨by show (0 : Int)≤6;omega,fun p=>by have p : (4 : Int)≤0:=p;omega,fun _=>rfl⟩,fun _=>⟨by show (0 : Int)≤7;omega,fun _=>rfl⟩,fun _ p=>by have p : (1 : Int)≤0:=p;omega,fun _ p=>by have p : (0 : Int)=3∨(0 : Int)=4:=p;omega,fun _ p=>by have p : (0 : Int)=4:=p;omega,fun _ p=>by have p : (0 : Int)=5:=p;omega,
  fun _=>⟨by show (0 : Int)≤6;omega,fun _=>rfl⟩,fun _ p=>by have p : (2 : Int)≤0:=p;omega,fun _=>⟨by show (0 : Int)≤6;omega,fun _=>rfl,fun p=>by have p : (0 : Int)=5:=p;omega⟩,fun _ p=>by have p : (2 : Int)≤0:=p;omega,fun _=>⟨rfl,rfl⟩⟩
theorem Cq {w : Wrd} (h : Inv w) {x : Int} (hx0 : 0≤x) (hx : x < w.ts.length) (c : Cal) : Inv (eR w x c).1:=by
 unfold eR
 split
 ·exact h
 rename_i hb
 split
 ·exact h
 rename_i hc
 have hc : bf w.m c=0:=Classical.not_not.1 hc
 split
 ·exact h
 rename_i h1
 split
 ·exact h
 have hho:=h.hd _ (Hf hx0 hx)
 have lrfl : w.m={ w.m with ae:=w.m.ae}:=rfl
 have hno : ¬ bI (aX c):=fun y=>by
  rcases y with ⟨_,p,_⟩ | ⟨_,p,_⟩ | ⟨_,p⟩
  ·exact p rfl
  ·exact p rfl
  ·exact p rfl
 refine h.quiet hx0 hx lrfl rfl (kZ h.lk hx0 hx rfl rfl fun y=>hb y.1) (py h.lk2 hx0 hx rfl rfl fun _=>hno) (fun _=>⟨Dn hc,FI.new c⟩) (fun ha=>by have p : (1 : Int)≤0:=ha.2.2.1;omega) ⟨hho.1,fun _ hk=>?_,hho.2.2⟩ fun k=>?_
 ·have hk : c.kind=1:=hk
  have:=hho.1
  show (tsk w x).held.length < 100
  have : (tsk w x).held.length≠100:=fun e=>h1 ⟨e,hk⟩
  omega
 ·have e1 : cr (tsk w x)=-1:=if_neg fun p=>hb p.1
  rw [cu e1]
  exact cu (t:={ tsk w x with busy:=true,f:=aX c}) (a:=-1) (if_pos ⟨rfl,fun p=>by have p : (0 : Int)=7:=p.2;omega⟩)
theorem wQ {w : Wrd} (h : Inv w) (hn : w.m.now≠1000000) : Inv ⟨{ w.m with now:=w.m.now + 1},w.ts⟩:=by
 have hm:=h.ch.mem
 have h0:=hm.ma
 have h1:=hm.Ik
 have hy : bB { w.m with now:=w.m.now + 1}:=⟨hm.ns,hm.nh1,hm.nh4,hm.nl,by show 0≤w.m.now + 1;omega,by show w.m.now + 1≤1000000;omega,hm.slot,hm.head,hm.free,hm.nodup,hm.leak⟩
 obtain ⟨c1,c2⟩:=jC h.ch hy rfl rfl (fun _=>rfl) fun b hb a ha=>⟨((h.ch.ch hb).ok a ha).refs,rfl,rfl⟩
 refine ⟨c1,h.lo,h.lk,h.lk2,fun t ht hb=>(h.fo t ht hb).len rfl rfl,fun t ht hb=>(h.fi t ht hb).other rfl (fun hh=>⟨?_,fun _ _=>rfl⟩) fun _ _ _=>⟨rfl,rfl⟩,h.un,h.hd,fun k hk=>?_⟩
 ·obtain ⟨i,i0,i1,rfl⟩:=pf ht
  exact c2 _ (HF h i0 i1 hb hh)
 ·have e : fK { w.m with now:=w.m.now + 1} k=fK w.m k:=nb (m:=w.m) (y:={ w.m with now:=w.m.now + 1}) rfl c2 k
  show (msl w.m k).refs=(fK { w.m with now:=w.m.now + 1} k : Int) + iF k w.ts
  rw [e]
  exact h.rf k hk
theorem xg {w : Wrd} (h : Inv w) (x : Pik) : Inv (bN w x).1:=by
 unfold bN
 split
 ·split
  ·exact h
  ·rename_i hn;exact wQ h hn
 split
 ·exact h
 rename_i hr
 have hx0 : 0≤x.task:=by omega
 have hx : x.task < w.ts.length:=by omega
 split
 ·unfold cN
  split
  ·exact h
  rename_i hb
  have hb : (tsk w x.task).busy=true:=by simpa using hb
  have hf:=h.fo _ (Hf hx0 hx) hb
  split
  ·rename_i hk
   have:=Dx h hx0 hx hb hk
   split
   ·rename_i hd;rwa [if_pos hd] at this
   ·rename_i hd;rwa [if_neg hd] at this
  split
  ·rename_i _ hk;exact Fp h hx0 hx hb hk
  split
  ·rename_i _ _ hk;exact DY h hx0 hx hb hk
  split
  ·rename_i _ _ _ hk;exact BA h hx0 hx hb hk
  have h6 : (tsk w x.task).f.c.kind=6:=by
   have:=hf.call
   unfold bf at this
   rw [if_neg (by omega),if_neg (by omega),if_neg (by omega)] at this
   split at this
   ·assumption
   ·cases this
  have:=B4 h hx0 hx hb h6
  split
  ·rename_i hd;rwa [if_pos hd] at this
  ·rename_i hd;rwa [if_neg hd] at this
 ·exact Cq h hx0 hx x.c
theorem AZ {w : Wrd} (G : Tsk→Tsk) (hb : ∀ t,(G t).busy=t.busy) (hf : ∀ t,(G t).f=t.f) (hh : ∀ t,(G t).held=t.held) (h : Inv w) : Inv ⟨w.m,w.ts.map G⟩:=by
 have ht : ∀ t : Int,0≤t→t < w.ts.length→tsk ⟨w.m,w.ts.map G⟩ t=G (tsk w t):=fun t h0 h1=>by
  unfold tsk
  have : t.toNat < w.ts.length:=by omega
  simp only [List.getD_eq_getElem?_getD,List.getElem?_map]
  rw [List.getElem?_eq_getElem this];rfl
 have hho : ∀ t,cr (G t)=cr t:=fun t=>by unfold cr;rw [hb,hf]
 have hon : ∀ k t,fv k (G t)=fv k t:=fun k t=>by unfold fv;rw [hho,hh]
 have hto : ∀ k (l : List Tsk),iF k (l.map G)=iF k l:=fun k l=>by
  induction l with
  | nil=>rfl
  | cons t l ih=>simp only [List.map_cons,iF,hon,ih]
 have had : ∀ t,ft (G t)↔ft t:=fun t=>by unfold ft;rw [hb,hf]
 refine ⟨h.ch,by simpa using h.lo,fun b hbl=>?_,fun t t0 t1 tb th=>?_,fun t hin tb=>?_,fun t hin tb=>?_,fun t u t0 t1 u0 u1 hne ta ua=>?_,fun t hin=>?_,fun k hk=>?_⟩
 ·rcases h.lk b hbl with h1 | ⟨h1,h2,h3,h4,h5⟩
  ·exact .inl h1
  ·refine .inr ⟨h1,by simpa using h2,?_,?_,?_⟩
   ·rw [ht _ h1 h2,hb];exact h3
   ·rw [ht _ h1 h2,hf];exact h4
   ·rw [ht _ h1 h2,hf];exact h5
 ·have t1 : t < w.ts.length:=by simpa using t1
  rw [ht t t0 t1] at tb th ⊢
  rw [hb] at tb
  rw [hf] at th ⊢
  exact h.lk2 t t0 t1 tb th
 ·obtain ⟨u,hu,rfl⟩:=List.mem_map.1 hin
  rw [hb] at tb
  rw [hf];exact h.fo u hu tb
 ·obtain ⟨u,hu,rfl⟩:=List.mem_map.1 hin
  rw [hb] at tb
  rw [hf];exact h.fi u hu tb
 ·have t1 : t < w.ts.length:=by simpa using t1
  have u1 : u < w.ts.length:=by simpa using u1
  rw [ht t t0 t1] at ta ⊢
  rw [ht u u0 u1] at ua ⊢
  rw [hf,hf]
  exact h.un t u t0 t1 u0 u1 hne ((had _).1 ta) ((had _).1 ua)
 ·obtain ⟨u,hu,rfl⟩:=List.mem_map.1 hin
  unfold gP
  rw [hh,hb,hf]
  exact h.hd u hu
 ·show (msl w.m k).refs=fK w.m k + iF k (w.ts.map G)
  rw [hto];exact h.rf k hk
theorem Inv.bm {w : Wrd} (h : Inv w) : Inv w.bm:=AZ Tsk.bm (fun _=>rfl) (fun _=>rfl) (fun _=>rfl) h
theorem Inv.G4 {w : Wrd} (h : Inv w) : Inv w.G4:=AZ Tsk.G4 (fun _=>rfl) (fun _=>rfl) (fun _=>rfl) h
theorem tz {n : Nat} : ∀ {l : List Int},(∀ a∈l,0≤a∧a < n)→fb n l=0
 | [],_=>rfl
 | a :: l,h=>by
  have h1:=h a (by simp)
  simp only [fb]
  rw [if_neg (by omega)]
  exact tz fun b hb=>h b (by simp [hb])
theorem oR {m : Mem} : ∀ {l : List Tsk},(∀ t∈l,dO m t=0)→eC m l=0
 | [],_=>rfl
 | t :: l,h=>by
  simp only [eC]
  rw [if_neg (fun y=>y (h t (by simp)))]
  exact oR fun u hu=>h u (by simp [hu])
theorem Inv.check {w : Wrd} (h : Inv w) : bL w=0∧bU w.m=0:=by
 refine ⟨?_,(rN w.m).2 h.ch⟩
 have hl:=h.lo
 unfold bL
 rw [if_neg (fun y=>y ((dT w.m).2 h.ch.mem)),if_neg (by omega)]
 refine oR fun t ht=>?_
 have hd:=h.hd t ht
 have h1:=hd.1
 unfold dO
 rw [if_neg (by omega),tz hd.2.2,if_neg (fun y=>y rfl)]
 split
 ·rename_i hb;exact (mD w.m t.f).2 (h.fo t ht hb)
 ·rfl
theorem ES {a b n : Int} (h : (iw a b n).2=0) : Inv (iw a b n).1:=by
 have hlk:=BV h
 unfold iw at h hlk ⊢
 split at h
 ·rename_i h1;exact absurd h h1
 rename_i h1
 rw [if_neg h1] at hlk ⊢
 split at h
 ·cases h
 rename_i h2
 rw [if_neg h2] at hlk ⊢
 have h1 : (dx a b).2=0:=Classical.not_not.1 h1
 unfold dx at h1 hlk ⊢
 split at h1
 ·cases h1
 rename_i h3
 rw [if_neg h3] at hlk ⊢
 obtain ⟨A,hA⟩ : ∃ A : Nat,a=A:=⟨a.toNat,by omega⟩
 obtain ⟨B,hB⟩ : ∃ B : Nat,b=B:=⟨b.toNat,by omega⟩
 obtain ⟨K,hK⟩ : ∃ K : Nat,n=K:=⟨n.toNat,by omega⟩
 subst hA hB hK
 simp only [Int.toNat_natCast] at hlk ⊢
 generalize hm : (⟨List.replicate A default,(List.range B).map (fun b : Nat=>-1 - (b : Int)),(List.range A).map (fun k : Nat=>(A : Int) - 1 - (k : Int)),List.replicate B (-1),0⟩ : Mem)=m at *
 have ms : m.slots=List.replicate A default:=by rw [← hm]
 have mh : m.heads=(List.range B).map (fun b : Nat=>-1 - (b : Int)):=by rw [← hm]
 have mo : m.ae=List.replicate B (-1):=by rw [← hm]
 have mf : m.free=(List.range A).map (fun k : Nat=>(A : Int) - 1 - (k : Int)):=by rw [← hm]
 have mn : m.now=0:=by rw [← hm]
 have hsl : ∀ i,msl m i=default:=fun i=>by
  unfold msl
  rw [ms,List.getD_eq_getElem?_getD,List.getElem?_replicate]
  split <;> rfl
 have hhd : ∀ i,i < B→m.heads.getD i 0=-1 - (i : Int):=fun i hi=>by
  rw [mh,List.getD_eq_getElem?_getD,List.getElem?_map,List.getElem?_range hi];rfl
 have hlo : ∀ i,i < B→m.ae.getD i 0=-1:=fun i hi=>by
  rw [mo,List.getD_eq_getElem?_getD,List.getElem?_replicate,if_pos hi];rfl
 have lh : m.heads.length=B:=by rw [mh];simp
 have ls : m.slots.length=A:=by rw [ms];simp
 have hmo : bB m:=by
  refine ⟨by omega,by omega,by omega,by rw [mo,lh];simp,by omega,by omega,fun s hs=>?_,fun i hi=>?_,fun c hc=>?_,?_,fun i hi _=>?_⟩
  ·rw [ms] at hs
   rw [List.eq_of_mem_replicate hs]
   exact ⟨by decide,by decide,by decide,by decide,by decide,by show (0 : Int)≤_;omega,by show -_≤(0 : Int);omega⟩
  ·rw [lh] at hi ⊢
   rw [hhd i hi,hlo i hi]
   exact ⟨by omega,by omega,by omega,by omega,by omega⟩
  ·rw [mf] at hc
   obtain ⟨k,hk,rfl⟩:=List.mem_map.1 hc
   have:=List.mem_range.1 hk
   exact ⟨by omega,by omega,by rw [hsl];rfl⟩
  ·rw [mf]
   exact List.pairwise_map.2 (List.Pairwise.imp (fun h e=>h (by omega)) List.nodup_range)
  ·rw [mf]
   exact List.mem_map.2 ⟨A - 1 - i,List.mem_range.2 (by omega),by omega⟩
 have hco : ∀ i,i < m.heads.length→fH m i []:=fun i hi=>by
  rw [lh] at hi
  refine ⟨br.2 ⟨?_,by simp⟩,fun c hc=>(by cases hc),by simp⟩
  have e : aO m i=-1 - (i : Int):=by unfold aO;rw [Int.toNat_natCast];exact hhd i hi
  exact ⟨e,by rw [e];omega⟩
 have hC : aK m:=⟨hmo,fun i hi=>⟨[],hco i hi⟩⟩
 have hid : ∀ t∈List.replicate K idle,t=idle:=fun t ht=>List.eq_of_mem_replicate ht
 have htk : ∀ t : Int,0≤t→t < (Wrd.mk m (List.replicate K idle)).ts.length→tsk ⟨m,List.replicate K idle⟩ t=idle:=fun t t0 t1=>hid _ (Hf t0 t1)
 refine ⟨hC,by simp;omega,hlk,fun t t0 t1 tb=>?_,fun t ht hb=>?_,fun t ht hb=>?_,fun t u t0 t1 u0 u1 _ ta _=>?_,fun t ht=>?_,fun k hk=>?_⟩
 ·rw [htk t t0 t1] at tb;cases tb
 ·rw [hid t ht] at hb;cases hb
 ·rw [hid t ht] at hb;cases hb
 ·rw [htk t t0 t1] at ta;cases ta.1
 ·rw [hid t ht]
  exact ⟨by decide,fun hb=>(by cases hb),fun c hc=>by cases hc⟩
 ·show (msl m k).refs=fK m k + iF k (List.replicate K idle)
  have e1 : fK m k=0:=by
   have : ∀ n b,b + n≤m.heads.length→iX (fun i=>(chL m i).count (k : Int)) n b=0:=fun n=>by
    induction n with
    | zero=>intro b _;rfl
    | succ n ih =>
     intro b hb
     simp only [iX]
     rw [ih (b + 1) (by omega),tV (hco b (by omega)).of];rfl
   exact this _ 0 (by omega)
  have e2 : ∀ K,iF (k : Int) (List.replicate K idle)=0:=fun K=>by
   induction K with
   | zero=>rfl
   | succ K ih =>
    simp only [List.replicate_succ,iF,ih]
    rw [cu (t:=idle) (a:=-1) rfl,if_neg (by omega)];rfl
  rw [e1,e2,hsl];rfl
end Go.Proofs.Ytpmamacjepcdmaa

namespace Go.Proofs.Ytpmamacjepcdmaa
open Go Go.Sy Go.RowKit
set_option linter.unusedSimpArgs false
set_option linter.unusedVariables false
def cat (m : Mem) : Nat→Nat→List cI
 | 0,_=>[]
 | n + 1,b=>(chL m b).map (bu m) ++ cat m n (b + 1)
theorem nQ {m : Mem} : ∀ {n b : Nat} {acc : List cI},bC m n b acc=acc ++ cat m n b
 | 0,b,acc=>by simp [bC,cat]
 | n + 1,b,acc=>by
  rw [bC,nQ]
  simp only [cat,chL,List.append_assoc]
theorem gN (m : Mem) : aq m=cat m m.heads.length 0:=by
 unfold aq
 rw [nQ];rfl
theorem pO {m y : Mem} : ∀ {n b : Nat},(∀ i,b≤i→i < b + n→(chL y i).map (bu y)=(chL m i).map (bu m))→cat y n b=cat m n b
 | 0,_,_=>rfl
 | n + 1,b,h=>by
  simp only [cat]
  rw [h b (Nat.le_refl _) (by omega),pO fun i h1 h2=>h i (by omega) (by omega)]
end Go.Proofs.Ytpmamacjepcdmaa
