import Derived.Test.YtpmamacjepcdmaaCDeed
namespace Go.Proofs.Ytpmamacjepcdmaa
open Go Go.Sy Go.RowKit
set_option linter.unusedSimpArgs false
set_option linter.unusedVariables false
theorem wb {m : Mem} : ∀ {l l' : List Int} {n e e' : Int},Path m n l e→Path m n l' e'→l=l'∧e=e'
 | [],[],_,_,_,h,h'=>⟨rfl,h.1.symm.trans h'.1⟩
 | [],_ :: _,_,_,_,h,h'=>by have:=h.2;have:=h'.2.1;omega
 | _ :: _,[],_,_,_,h,h'=>by have:=h'.2;have:=h.2.1;omega
 | a :: l,b :: l',n,e,e',h,h'=>by
  have hab : a=b:=by have:=h.1;have:=h'.1;omega
  subst hab
  obtain ⟨r1,r2⟩:=wb h.2.2 h'.2.2
  exact ⟨by rw [r1],r2⟩
theorem zt {m : Mem} : ∀ {l : List Int} {n e : Int},Path m n l e→l.Nodup
 | [],_,_,_=>List.nodup_nil
 | a :: l,n,e,h=>by
  refine List.nodup_cons.2 ⟨fun ha=>?_,zt h.2.2⟩
  obtain ⟨s1,s2,rfl⟩:=List.append_of_mem ha
  obtain ⟨q,_,h2⟩:=fF.1 h.2.2
  have hq : q=n:=by rw [h2.1,h.1]
  rw [hq] at h2
  have:=congrArg List.length (wb h h2).1
  simp at this
  omega
theorem B3 {m : Mem} (hm : bs m) {a : Int} : nxt m a≤m.slots.length:=by
 by_cases ha : a.toNat < m.slots.length
 ·exact (hm.sl ha).n0
 ·unfold nxt msl
  rw [List.getD_eq_getElem?_getD,List.getElem?_eq_none (by omega)]
  show (0 : Int)≤_
  omega
theorem zu {m : Mem} (hm : bs m) : ∀ {l : List Int} {n e : Int},n≤m.slots.length→Path m n l e→∀ a∈l,0≤a∧a < m.slots.length
 | [],_,_,_,_,_,h=>by cases h
 | b :: l,n,e,hn,h,a,ha=>by
  rcases List.mem_cons.1 ha with rfl | ha
  ·have:=h.1;have:=h.2.1;omega
  ·exact zu hm (B3 hm) h.2.2 a ha
theorem xT {m : Mem} (hm : bs m) {l : List Int} {n e : Int} (hn : n≤m.slots.length) (h : Path m n l e) : l.length≤12:=by
 have h1:=iC (zt h) (zu hm hn h)
 have:=hm.ns
 omega
def Ends (m : Mem) (n : Int) : Prop:=∃ l e,Path m n l e
def Acy (m : Mem) : Prop:=∀ a : Int,0≤a→a < m.slots.length→Ends m (a + 1)
theorem qa {m y : Mem} {c : Int} (hn : ∀ a : Int,0≤a→a≠c→nxt y a=nxt m a) (hc : Ends y (c + 1)) : ∀ {l : List Int} {n e : Int},Path m n l e→Ends y n
 | [],n,e,h=>⟨[],e,h⟩
 | a :: l,n,e,h=>by
  by_cases ha : a=c
  ·rw [h.1,ha];exact hc
  ·obtain ⟨l',e',h'⟩:=qa hn hc h.2.2
   exact ⟨a :: l',e',h.1,h.2.1,by rw [hn a (by have:=h.1;have:=h.2.1;omega) ha];exact h'⟩
theorem mw {m y : Mem} (h : Acy m) (hl : y.slots.length=m.slots.length) (hn : ∀ a,nxt y a=nxt m a) : Acy y:=fun a a0 a1=>by
 obtain ⟨l,e,hp⟩:=h a a0 (by omega)
 exact ⟨l,e,hp.congr fun c _=>hn c⟩
theorem Acy.deed {m y : Mem} {P : Nat→Prop} (hC : aK m) (hD : cZ m P y) (h : Acy m) : Acy y:=by
 have hl:=(hD.lens hC).1
 cases hD with
 | quiet l=>exact mw h rfl fun _=>rfl
 | tick=>exact mw h rfl fun _=>rfl
 | @refs _ a d a0 a1 hs hh hn hk hc =>
  refine mw h hl fun c=>?_
  have:=fV hs (by omega) c.toNat
  show (y.slots.getD c.toNat default).next=_
  rw [this];split
  ·rename_i e;unfold nxt;rw [← e];rfl
  ·rfl
 | @tak _ a k t a0 a1 hr hs hh hn hk hc ho ht =>
  refine mw h hl fun c=>?_
  have:=fV hs (by omega) c.toNat
  show (y.slots.getD c.toNat default).next=_
  rw [this];split
  ·rename_i e;unfold nxt;rw [← e];rfl
  ·rfl
 | @lnk _ a B a0 a1 hB hp hr hi hk hb hy hc ho =>
  have hm : ∀ j,msl y j=if a.toNat=j then iV (aM m B) (msl m a.toNat) else msl m j:=fun j=>fV (by rw [hy];rfl) (by omega) j
  have hn : ∀ c : Int,0≤c→c≠a→nxt y c=nxt m c:=fun c c0 hne=>by unfold nxt;rw [hm,if_neg (by omega)]
  have ha : nxt y a=aM m B:=by unfold nxt;rw [hm,if_pos rfl];rfl
  have hna : a ∉ chL m B:=fun hx=>hk a hx rfl
  have hpa : Path y (aM m B) (chL m B) (-1 - B):=(bF.1 (hC.ch hB).of).1.congr fun c hc=>hn c (df hC hc).1 fun e=>hna (e ▸ hc)
  have hE : Ends y (a + 1):=⟨a :: chL m B,-1 - B,rfl,by omega,by rw [ha];exact hpa⟩
  intro c c0 c1
  obtain ⟨l,e,hp⟩:=h c c0 (by omega)
  exact qa hn hE hp
 | @cutt _ a B l1 l3 hB hp e hy hc ho =>
  obtain ⟨d1,d2,d3,d4,d5,d6⟩:=iP hC hB e rfl hy
  rcases List.eq_nil_or_concat l1 with e1 | ⟨k,c,e1⟩ <;> try rw [List.concat_eq_append] at e1
  ·have e0 : jz l1=0:=by rw [e1];rfl
   refine mw h hl fun c=>?_
   rw [hy,e0];rfl
  ·have e0 : jz l1=c + 1:=by rw [e1];unfold jz;simp
   have hcm : c∈chL m B:=by rw [e,e1];simp
   obtain ⟨c0,c1⟩:=df hC hcm
   have hs : y.slots=m.slots.modify c.toNat (nM (msl m a.toNat).next):=by
    rw [hy,e0];unfold cut
    rw [if_pos (by omega),show c + 1 - 1=c by omega]
   have hm : ∀ j,msl y j=if c.toNat=j then nM (msl m a.toNat).next (msl m c.toNat) else msl m j:=fun j=>fV hs (by omega) j
   have hn : ∀ d : Int,0≤d→d≠c→nxt y d=nxt m d:=fun d d0 hne=>by unfold nxt;rw [hm,if_neg (by omega)]
   have hpy:=(bF.1 (d1.ch (show B < y.heads.length by omega)).of).1
   rw [d2,e1,List.append_assoc] at hpy
   obtain ⟨q,_,hq⟩:=fF.1 hpy
   have hq : Path y q (c :: l3) (-1 - B):=hq
   have hE : Ends y (c + 1):=⟨c :: l3,-1 - B,by rw [← hq.1];exact hq⟩
   intro d dd0 dd1
   obtain ⟨l,e,hp⟩:=h d dd0 (by omega)
   exact qa hn hE hp
theorem Acy.pick {w : Wrd} (h : Inv w) (ha : Acy w.m) (x : Pik) : Acy (b7 w x).1.m:=ha.deed h.ch (AI h x)
theorem Acy.new {a b n : Int} (h : (oU a b n).2=0) : Acy (oU a b n).1.m:=by
 unfold oU at h ⊢
 split at h
 ·rename_i h1;exact absurd h h1
 rename_i h1
 rw [if_neg h1]
 split at h
 ·cases h
 rename_i h2
 rw [if_neg h2]
 have h1 : (dO a b).2=0:=Classical.not_not.1 h1
 show Acy (dO a b).1
 unfold dO at h1 ⊢
 split at h1
 ·cases h1
 rename_i h3
 rw [if_neg h3]
 intro c c0 c1
 have hn : ∀ m : Mem,m.slots=List.replicate a.toNat default→nxt m c=0:=fun m hm=>by
  unfold nxt msl
  rw [hm,List.getD_eq_getElem?_getD,List.getElem?_replicate]
  split <;> rfl
 exact ⟨[c],0,rfl,by omega,by rw [hn _ rfl];exact ⟨rfl,Int.le_refl _⟩⟩
end Go.Proofs.Ytpmamacjepcdmaa

namespace Go.Proofs.Ytpmamacjepcdmaa
open Go Go.Sy Go.RowKit
set_option linter.unusedSimpArgs false
set_option linter.unusedVariables false
def cp (m : Mem) (f : Frm) : Nat:=((chF m f).dropWhile fun a=>decide (a≠f.cur - 1)).length
theorem z3 {a : Int} : ∀ {l1 l3 : List Int},a ∉ l1→(l1 ++ a :: l3).dropWhile (fun c=>decide (c≠a))=a :: l3
 | [],l3,_=>by simp
 | c :: l1,l3,h=>by
  have h1 : c≠a:=fun e=>h (by simp [e])
  rw [List.cons_append,List.dropWhile_cons,if_pos (by simpa using h1)]
  exact z3 fun hx=>h (by simp [hx])
theorem wS {α : Type} {p : α→Bool} : ∀ {l : List α},(∀ a∈l,p a=true)→l.dropWhile p=[]
 | [],_=>rfl
 | a :: l,h=>by
  rw [List.dropWhile_cons,if_pos (h a (by simp))]
  exact wS fun b hb=>h b (by simp [hb])
theorem jl {m : Mem} {f : Frm} {b : Nat} {l1 l2 : List Int} (hC : aK m) (hb : b < m.heads.length) (hB : aa m f.c=b) (h : chL m b=l1 ++ l2) (hc : f.cur=fL b l2) : cp m f=l2.length:=by
 have e : chF m f=chL m b:=by unfold chF;rw [hB];rfl
 unfold cp
 rw [e]
 cases l2 with
 | nil =>
  have : (chL m b).dropWhile (fun a=>decide (a≠f.cur - 1))=[]:=wS fun a ha=>by
   have h0:=(df hC ha).1
   have hc : f.cur=-1 - (b : Int):=hc
   simp;omega
  rw [this]
 | cons a l3 =>
  have hc : f.cur=a + 1:=hc
  have hnd:=(hC.ch hb).ndl
  rw [h] at hnd ⊢
  rw [show f.cur - 1=a by omega,z3 fun hx=>(List.nodup_append.1 hnd).2.2 a hx a (by simp) rfl]
def gY (m : Mem) (f : Frm) : Nat:=if f.pc=0 then 40 else if f.pc=1 then 39 else if f.pc=2 then 38 else if f.pc=3 then 2 * cp m f + 5 else if f.pc=4 then 2 * cp m f + 4 else if f.pc=5∨f.pc=6 then 2 else 1
def dX (m : Mem) (f : Frm) : Nat:=if f.pc=0 then 40 else if f.pc=1 then 39 else if f.pc=2 then 2 * cp m f + 6 else if f.pc=3 then 2 * cp m f + 5 else if f.pc=4 then 3 else if f.pc=5 then 2 else 1
def cj (m : Mem) (f : Frm) : Nat:=if f.pc=0 then 45 else if f.pc=1 then 44 else if f.pc=2 then 3 * cp m f + 5 else if f.pc=3∨f.pc=4 then 3 * cp m f + 4 else if f.pc=5 then 3 * cp m f + 6 else 1
def aF (m : Mem) (f : Frm) : Nat:=if f.c.kind=1 then 0 else if f.c.kind=2 then gY m f else if f.c.kind=3 then dX m f else if f.c.kind=4∨f.c.kind=5 then cj m f else 1
theorem Df (m : Mem) (f : Frm) (h : f.c.kind≠1) : 1≤aF m f:=by
 unfold aF gY dX cj
 rw [if_neg h]
 repeat' split
 all_goals omega
theorem rA {m : Mem} (hC : aK m) (f : Frm) : cp m f≤12:=by
 unfold cp
 have h1 : ((chF m f).dropWhile fun a=>decide (a≠f.cur - 1)).length≤(chF m f).length:=(List.dropWhile_sublist _).length_le
 have h2 : (chF m f).length≤m.slots.length:=(jf hC.mem _).1
 have:=hC.mem.ns
 omega
theorem aF_le {m : Mem} (hC : aK m) (f : Frm) : aF m f≤45:=by
 have:=rA hC f
 unfold aF gY dX cj
 repeat' split
 all_goals omega
theorem D9 {m y : Mem} {f : Frm} (h : bq f→chF y f=chF m f) : aF y f=aF m f:=by
 have hr : bq f→cp y f=cp m f:=fun hh=>by unfold cp;rw [h hh]
 unfold aF
 by_cases k1 : f.c.kind=1
 ·rw [if_pos k1,if_pos k1]
 rw [if_neg k1,if_neg k1]
 by_cases k2 : f.c.kind=2
 ·rw [if_pos k2,if_pos k2]
  unfold gY
  by_cases hp : f.pc=0∨f.pc=1
  ·rcases hp with e | e <;> simp [e]
  ·rw [hr (.inl ⟨k2,by omega,by omega⟩)]
 rw [if_neg k2,if_neg k2]
 by_cases k3 : f.c.kind=3
 ·rw [if_pos k3,if_pos k3]
  unfold dX
  by_cases hp : f.pc=0∨f.pc=6
  ·rcases hp with e | e <;> simp [e]
  ·rw [hr (.inr (.inl ⟨k3,by omega,by omega⟩))]
 rw [if_neg k3,if_neg k3]
 by_cases k4 : f.c.kind=4∨f.c.kind=5
 ·rw [if_pos k4,if_pos k4]
  unfold cj
  by_cases hp : f.pc=0
  ·simp [hp]
  ·rw [hr (.inr (.inr ⟨k4,by omega⟩))]
 rw [if_neg k4,if_neg k4]
def yT (m : Mem) (f : Frm) (r : Frm × Mem) (lk : Int) : Prop:=(r=(f,m)∧f.pc=lk∧m.af.getD (aa m f.c).toNat 0≠-1)∨r.1.done=true∨(r.1.done=f.done∧r.1.c=f.c∧aF r.2 r.1 < aF m f)
theorem nX {m : Mem} {b x : Int} (h : lock m b x=(m,false)) : m.af.getD b.toNat 0≠-1:=fun e=>by
 unfold lock at h
 rw [if_pos e] at h
 have:=congrArg Prod.snd h
 cases this
theorem Dc {w : Wrd} (h : Inv w) {x : Int} (hx0 : 0≤x) (hx : x < w.ts.length) (hb : (tsk w x).busy=true) (hk : (tsk w x).f.c.kind=2) : yT w.m (tsk w x).f (bx w.m (tsk w x).f x) 1:=by
 obtain ⟨hf,hF,hd⟩:=cL h hx0 hx hb
 have hbr:=aC h.ch.mem.lu hf.call (by omega)
 obtain ⟨B,hB⟩ : ∃ B : Nat,aa w.m (tsk w x).f.c=B:=⟨(aa w.m (tsk w x).f.c).toNat,by omega⟩
 have hBl : B < w.m.heads.length:=by omega
 have hch : chF w.m (tsk w x).f=chL w.m B:=by unfold chF;rw [hB];rfl
 generalize hfe : (tsk w x).f=f at *
 have eF : ∀ (y : Mem) (g : Frm),g.c=f.c→aF y g=gY y g:=fun y g e=>by unfold aF;rw [e,if_neg (by omega),if_pos hk]
 have go : ∀ (y : Mem) (g : Frm),g.done=f.done→g.c=f.c→gY y g < gY w.m f→yT w.m f (g,y) 1:=fun y g h1 h2 h3=>.inr (.inr ⟨h1,h2,by show aF y g < aF w.m f;rw [eF y g h2,eF w.m f rfl];exact h3⟩)
 have p0:=hf.pc0
 have p7:=(hF.add hk).1
 unfold bx
 by_cases e0 : f.pc=0
 ·rw [if_pos e0]
  split
  ·exact .inr (.inl rfl)
  ·exact go _ _ rfl rfl (by unfold gY;rw [e0];simp)
 rw [if_neg e0]
 by_cases e1 : f.pc=1
 ·rw [if_pos e1]
  rcases cK w.m (aa w.m f.c) x with ⟨hl,_⟩ | hl
  ·rw [hl]
   exact go _ _ rfl rfl (by unfold gY;rw [e1];simp)
  ·refine .inl ⟨?_,e1,nX hl⟩
   rw [hl];rfl
 rw [if_neg e1]
 by_cases e2 : f.pc=2
 ·rw [if_pos e2]
  refine go _ _ rfl rfl ?_
  have hr:=rA h.ch { f with cur:=aM w.m (aa w.m f.c),pc:=3}
  have e : gY w.m { f with cur:=aM w.m (aa w.m f.c),pc:=3}=2 * cp w.m { f with cur:=aM w.m (aa w.m f.c),pc:=3} + 5:=by unfold gY;simp
  rw [show gY w.m f=38 by unfold gY;rw [e2];simp,e]
  omega
 rw [if_neg e2]
 by_cases e3 : f.pc=3
 ·rw [if_pos e3]
  refine go _ _ rfl rfl ?_
  rw [show gY w.m f=2 * cp w.m f + 5 by unfold gY;rw [e3];simp]
  by_cases c0 : f.cur≤0
  ·rw [if_pos c0];unfold gY;simp <;> omega
  rw [if_neg c0]
  by_cases c1 : (at1 w.m f).k=f.c.k
  ·rw [if_pos c1];unfold gY;simp <;> omega
  ·rw [if_neg c1]
   show gY w.m { f with pc:=4} < _
   have : cp w.m { f with pc:=4}=cp w.m f:=rfl
   unfold gY;simp <;> omega
 rw [if_neg e3]
 by_cases e4 : f.pc=4
 ·have hc:=(hF.add4 hk e4).1
  rw [if_pos ⟨e4,hc⟩]
  refine go _ _ rfl rfl ?_
  obtain ⟨l1,l2,s1,s2,_⟩:=hF.add3 hk (.inr e4)
  rw [hch] at s1
  rw [hB] at s2
  obtain ⟨a,l3,c1,c2,c3,c4,c5⟩:=fm h.ch hBl s1 (by rw [← s2];omega)
  have r1:=jl h.ch hBl hB s1 s2
  subst c1
  have hn:=iB h.ch hBl s1
  have r2:=jl (f:={ f with cur:=(at1 w.m f).next,pc:=3}) h.ch hBl hB (show chL w.m B=(l1 ++ [a]) ++ l3 by rw [s1];simp) (by
   show (at1 w.m f).next=_
   rw [← hn];unfold nxt at1;rw [show f.cur - 1=a by omega])
  rw [show gY w.m f=2 * cp w.m f + 4 by unfold gY;rw [e4];simp,show gY w.m { f with cur:=(at1 w.m f).next,pc:=3}=2 * cp w.m { f with cur:=(at1 w.m f).next,pc:=3} + 5 by unfold gY;simp,r1,r2]
  simp only [List.length_cons];omega
 rw [if_neg (by omega)]
 have h1:=hF.add1 hk
 by_cases e5 : f.pc=5
 ·rw [if_pos ⟨e5,(h1 (by omega) (by omega)).1⟩]
  exact go _ _ rfl rfl (by unfold gY;rw [e5];simp)
 rw [if_neg (by omega)]
 by_cases e6 : f.pc=6
 ·rw [if_pos ⟨e6,(h1 (by omega) (by omega)).1⟩]
  exact go _ _ rfl rfl (by unfold gY;rw [e6];simp)
 rw [if_neg (by omega),if_pos (by omega)]
 exact .inr (.inl rfl)
theorem Bj {w : Wrd} (h : Inv w) {x : Int} (hx0 : 0≤x) (hx : x < w.ts.length) (hb : (tsk w x).busy=true) (hk : (tsk w x).f.c.kind=3) : yT w.m (tsk w x).f (aQ w.m (tsk w x).f x) 0:=by
 obtain ⟨hf,hF,hd⟩:=cL h hx0 hx hb
 have hbr:=aC h.ch.mem.lu hf.call (by omega)
 obtain ⟨B,hB⟩ : ∃ B : Nat,aa w.m (tsk w x).f.c=B:=⟨(aa w.m (tsk w x).f.c).toNat,by omega⟩
 have hBl : B < w.m.heads.length:=by omega
 have hch : chF w.m (tsk w x).f=chL w.m B:=by unfold chF;rw [hB];rfl
 generalize hfe : (tsk w x).f=f at *
 have eF : ∀ (y : Mem) (g : Frm),g.c=f.c→aF y g=dX y g:=fun y g e=>by unfold aF;rw [e,if_neg (by omega),if_neg (by omega),if_pos hk]
 have go : ∀ (y : Mem) (g : Frm),g.done=f.done→g.c=f.c→dX y g < dX w.m f→yT w.m f (g,y) 0:=fun y g h1 h2 h3=>.inr (.inr ⟨h1,h2,by show aF y g < aF w.m f;rw [eF y g h2,eF w.m f rfl];exact h3⟩)
 have p0:=hf.pc0
 have p6:=(hF.drop hk).1
 unfold aQ
 by_cases e0 : f.pc=0
 ·rw [if_pos e0]
  rcases cK w.m (aa w.m f.c) x with ⟨hl,_⟩ | hl
  ·rw [hl]
   exact go _ _ rfl rfl (by unfold dX;rw [e0];simp)
  ·refine .inl ⟨?_,e0,nX hl⟩
   rw [hl];rfl
 rw [if_neg e0]
 by_cases e1 : f.pc=1
 ·rw [if_pos e1]
  refine go _ _ rfl rfl ?_
  have hr:=rA h.ch { f with prev:=0,cur:=aM w.m (aa w.m f.c),pc:=2}
  have e : dX w.m { f with prev:=0,cur:=aM w.m (aa w.m f.c),pc:=2}=2 * cp w.m { f with prev:=0,cur:=aM w.m (aa w.m f.c),pc:=2} + 6:=by unfold dX;simp
  rw [show dX w.m f=39 by unfold dX;rw [e1];simp,e]
  omega
 rw [if_neg e1]
 by_cases e2 : f.pc=2
 ·rw [if_pos e2]
  have eA : dX w.m f=2 * cp w.m f + 6:=by unfold dX;rw [e2];simp
  rw [eA] at go
  by_cases c0 : f.cur≤0
  ·rw [if_pos c0]
   exact go _ _ rfl rfl (by unfold dX;simp <;> omega)
  rw [if_neg c0]
  refine go _ _ rfl rfl ?_
  by_cases c1 : (at1 w.m f).k=f.c.k
  ·rw [if_pos c1];unfold dX;simp <;> omega
  ·rw [if_neg c1]
   show dX w.m { f with pc:=3} < _
   have : cp w.m { f with pc:=3}=cp w.m f:=rfl
   unfold dX;simp <;> omega
 rw [if_neg e2]
 by_cases e3 : f.pc=3
 ·obtain ⟨⟨l1,l2,s1,s2,s3⟩,hcu⟩:=hF.drop2 hk (by omega) (by omega)
  have hc:=hcu (by omega)
  rw [if_pos ⟨e3,hc⟩]
  refine go _ _ rfl rfl ?_
  rw [hch] at s1
  rw [hB] at s2
  obtain ⟨a,l3,c1,c2,c3,c4,c5⟩:=fm h.ch hBl s1 (by rw [← s2];omega)
  have r1:=jl h.ch hBl hB s1 s2
  subst c1
  have hn:=iB h.ch hBl s1
  have r2:=jl (f:={ f with prev:=f.cur,cur:=(at1 w.m f).next,pc:=2}) h.ch hBl hB (show chL w.m B=(l1 ++ [a]) ++ l3 by rw [s1];simp) (by
   show (at1 w.m f).next=_
   rw [← hn];unfold nxt at1;rw [show f.cur - 1=a by omega])
  rw [show dX w.m f=2 * cp w.m f + 5 by unfold dX;rw [e3];simp,show dX w.m { f with prev:=f.cur,cur:=(at1 w.m f).next,pc:=2}=2 * cp w.m { f with prev:=f.cur,cur:=(at1 w.m f).next,pc:=2} + 6 by unfold dX;simp,r1,r2]
  simp only [List.length_cons];omega
 rw [if_neg (by omega)]
 by_cases e4 : f.pc=4
 ·obtain ⟨_,hcu⟩:=hF.drop2 hk (by omega) (by omega)
  rw [if_pos ⟨e4,hcu (by omega)⟩]
  exact go _ _ rfl rfl (by unfold dX;rw [e4];simp)
 rw [if_neg (by omega)]
 by_cases e5 : f.pc=5
 ·rw [if_pos e5]
  exact go _ _ rfl rfl (by unfold dX;rw [e5];simp)
 rw [if_neg e5,if_pos (by omega)]
 exact .inr (.inl rfl)
theorem xJ {w : Wrd} (h : Inv w) {x : Int} (hx0 : 0≤x) (hx : x < w.ts.length) (hb : (tsk w x).busy=true) (hk : (tsk w x).f.c.kind=4∨(tsk w x).f.c.kind=5) : yT w.m (tsk w x).f (aU w.m (tsk w x).f x) 0:=by
 obtain ⟨hf,hF,hd⟩:=cL h hx0 hx hb
 have hbr:=aC h.ch.mem.lu hf.call (by omega)
 obtain ⟨B,hB⟩ : ∃ B : Nat,aa w.m (tsk w x).f.c=B:=⟨(aa w.m (tsk w x).f.c).toNat,by omega⟩
 have hBl : B < w.m.heads.length:=by omega
 have hch : chF w.m (tsk w x).f=chL w.m B:=by unfold chF;rw [hB];rfl
 have n7 : cg (tsk w x)=(tsk w x).f.slot:=cY hb (by omega)
 have hs1:=hf.slot1
 generalize hfe : (tsk w x).f=f at *
 have eF : ∀ (y : Mem) (g : Frm),g.c=f.c→aF y g=cj y g:=fun y g e=>by unfold aF;rw [e,if_neg (by omega),if_neg (by omega),if_neg (by omega),if_pos hk]
 have go : ∀ (y : Mem) (g : Frm),g.done=f.done→g.c=f.c→cj y g < cj w.m f→yT w.m f (g,y) 0:=fun y g h1 h2 h3=>.inr (.inr ⟨h1,h2,by show aF y g < aF w.m f;rw [eF y g h2,eF w.m f rfl];exact h3⟩)
 have p0:=hf.pc0
 obtain ⟨p6,q1,q2⟩:=hF.sweep hk
 have hst:=hF.sweep2 hk
 unfold aU
 by_cases e0 : f.pc=0
 ·rw [if_pos e0]
  rcases cK w.m (aa w.m f.c) x with ⟨hl,_⟩ | hl
  ·rw [hl]
   exact go _ _ rfl rfl (by unfold cj;rw [e0];simp)
  ·refine .inl ⟨?_,e0,nX hl⟩
   rw [hl];rfl
 rw [if_neg e0]
 by_cases e1 : f.pc=1
 ·rw [if_pos e1]
  refine go _ _ rfl rfl ?_
  have hr:=rA h.ch { f with prev:=0,cur:=aM w.m (aa w.m f.c),pc:=2}
  have e : cj w.m { f with prev:=0,cur:=aM w.m (aa w.m f.c),pc:=2}=3 * cp w.m { f with prev:=0,cur:=aM w.m (aa w.m f.c),pc:=2} + 5:=by unfold cj;simp
  rw [show cj w.m f=44 by unfold cj;rw [e1];simp,e]
  omega
 rw [if_neg e1]
 by_cases e2 : f.pc=2
 ·have eA : cj w.m f=3 * cp w.m f + 5:=by unfold cj;rw [e2];simp
  rw [eA] at go
  have hsm : ∀ (ks : List Key) (p : Int),p=3∨p=4→cj w.m { f with keys:=ks,pc:=p}=3 * cp w.m f + 4:=fun ks p hp=>by
   have : cp w.m { f with keys:=ks,pc:=p}=cp w.m f:=rfl
   rcases hp with rfl | rfl <;> (unfold cj;simp [this])
  by_cases c0 : f.cur≤0
  ·rw [if_pos ⟨e2,c0⟩]
   exact go _ _ rfl rfl (by unfold cj;simp)
  rw [if_neg (by omega)]
  by_cases c5 : f.c.kind=5
  ·rw [if_pos ⟨e2,c5⟩]
   exact go _ _ rfl rfl (by rw [hsm _ _ (.inl rfl)];omega)
  rw [if_neg (by omega),if_pos e2]
  refine go _ _ rfl rfl ?_
  have:=hsm f.keys (if (at1 w.m f).till≤w.m.now then 4 else 3) (by split <;> simp)
  have this : cj w.m { f with pc:=if (at1 w.m f).till≤w.m.now then 4 else 3}=_:=this
  rw [this];omega
 rw [if_neg (by omega),if_neg (by omega),if_neg e2]
 by_cases e3 : f.pc=3
 ·obtain ⟨⟨l1,l2,s1,s2,s3⟩,hcu⟩:=hst (by omega) (by omega)
  have hc:=hcu (by omega)
  rw [if_pos ⟨e3,hc⟩]
  refine go _ _ rfl rfl ?_
  rw [hch] at s1
  rw [hB] at s2
  obtain ⟨a,l3,c1,c2,c3,c4,c5⟩:=fm h.ch hBl s1 (by rw [← s2];omega)
  have r1:=jl h.ch hBl hB s1 s2
  subst c1
  have hn:=iB h.ch hBl s1
  have r2:=jl (f:={ f with prev:=f.cur,cur:=(at1 w.m f).next,pc:=2}) h.ch hBl hB (show chL w.m B=(l1 ++ [a]) ++ l3 by rw [s1];simp) (by
   show (at1 w.m f).next=_
   rw [← hn];unfold nxt at1;rw [show f.cur - 1=a by omega])
  rw [show cj w.m f=3 * cp w.m f + 4 by unfold cj;rw [e3];simp,show cj w.m { f with prev:=f.cur,cur:=(at1 w.m f).next,pc:=2}=3 * cp w.m { f with prev:=f.cur,cur:=(at1 w.m f).next,pc:=2} + 5 by unfold cj;simp,r1,r2]
  simp only [List.length_cons];omega
 rw [if_neg (by omega)]
 by_cases e4 : f.pc=4
 ·obtain ⟨⟨l1,l2,s1,s2,s3⟩,hcu⟩:=hst (by omega) (by omega)
  have hc:=hcu (by omega)
  rw [if_pos ⟨e4,hc⟩]
  refine go _ _ rfl rfl ?_
  rw [hch] at s1
  rw [hB] at s2
  obtain ⟨a,l3,c1,c2,c3,c4,c5⟩:=fm h.ch hBl s1 (by rw [← s2];omega)
  have r1:=jl h.ch hBl hB s1 s2
  subst c1
  have hn:=iB h.ch hBl s1
  have hca : f.cur - 1=a:=by omega
  generalize hy : cut w.m f.prev (f.cur - 1) (aa w.m f.c)=y
  rw [hca,hB] at hy
  obtain ⟨d1,d2,d3,d4,d5,d6⟩:=iP h.ch hBl s1 s3 hy.symm
  have r2:=jl (m:=y) (f:={ f with slot:=f.cur - 1,cur:=(at1 w.m f).next,pc:=5}) d1 (by omega) (by
   show aa y f.c=_
   rw [bw _ d6];exact hB) d2 (by
   show (at1 w.m f).next=_
   rw [← hn];unfold nxt at1;rw [hca])
  rw [show cj w.m f=3 * cp w.m f + 4 by unfold cj;rw [e4];simp,show cj y { f with slot:=f.cur - 1,cur:=(at1 w.m f).next,pc:=5}=3 * cp y { f with slot:=f.cur - 1,cur:=(at1 w.m f).next,pc:=5} + 6 by unfold cj;simp,r1,r2]
  simp only [List.length_cons];omega
 rw [if_neg (by omega)]
 by_cases e5 : f.pc=5
 ·have hsl:=q2 e5
  rw [if_pos ⟨e5,hsl⟩]
  refine go _ _ rfl rfl ?_
  have hre:=cP h hx0 hx n7 hsl (by omega)
  obtain ⟨u1,u2,u3,u4⟩:=eK (m:=w.m) (a:=f.slot) (by omega)
  have hc:=(fE h.ch (iS h.ch.mem hsl (by omega)) hsl (by omega) u1 u2 fun ⟨b,hb1,hb2⟩=>by have:=gU hb1 hb2;omega).2
  have r2 : cp (put w.m f.slot) { f with slot:=-1,n:=if 1000000 < f.n + 1 then 1000000 else f.n + 1,pc:=2}=cp w.m f:=by
   unfold cp chF
   show (List.dropWhile _ (chL (put w.m f.slot) (aa (put w.m f.slot) f.c).toNat)).length=_
   rw [bw f.c (show (put w.m f.slot).heads.length=w.m.heads.length by rw [u2]),hc _ (by omega)]
  rw [show cj w.m f=3 * cp w.m f + 6 by unfold cj;rw [e5];simp,show cj (put w.m f.slot) { f with slot:=-1,n:=if 1000000 < f.n + 1 then 1000000 else f.n + 1,pc:=2}=3 * cp (put w.m f.slot) { f with slot:=-1,n:=if 1000000 < f.n + 1 then 1000000 else f.n + 1,pc:=2} + 5 by unfold cj;simp,r2]
  omega
 rw [if_neg (by omega),if_pos (by omega)]
 exact .inr (.inl rfl)
end Go.Proofs.Ytpmamacjepcdmaa
