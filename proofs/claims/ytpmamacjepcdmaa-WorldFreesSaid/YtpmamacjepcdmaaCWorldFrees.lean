import Derived.Test.YtpmamacjepcdmaaCWorldEnds
namespace Go.Proofs.Ytpmamacjepcdmaa
open Go Go.Sy Go.RowKit
set_option linter.unusedSimpArgs false
set_option linter.unusedVariables false
theorem BF {w : Wrd} {k : Nat} (h : iG w k) : dN w≤aT w.m (tsk w k):=by
 have : ∀ n b,(∀ i : Nat,b≤i→i < b + n→i≠k→aT w.m (tsk w i)=0)→gr (fun i=>aT w.m (tsk w i)) n b≤aT w.m (tsk w k)∧(k < b→gr (fun i=>aT w.m (tsk w i)) n b=0):=fun n=>by
  induction n with
  | zero=>intro b _;exact ⟨Nat.zero_le _,fun _=>rfl⟩
  | succ n ih =>
   intro b hb
   obtain ⟨i1,i2⟩:=ih (b + 1) fun i p q=>hb i (by omega) (by omega)
   simp only [gr]
   by_cases e : b=k
   ·subst e
    rw [i2 (by omega)]
    exact ⟨by omega,fun p=>by omega⟩
   ·rw [hb b (Nat.le_refl _) (by omega) e]
    exact ⟨by omega,fun p=>by rw [i2 (by omega)]⟩
 refine (this w.ts.length 0 fun i _ hi hne=>?_).1
 unfold aT
 rw [if_neg (by rw [h i (by omega) (by omega) (by omega)];simp)]
structure mD (w : Wrd) : Prop where
 inv : Inv w
 acy : Acy w.m
 aS : w.aS=w
 idle : dB w=false
theorem lC {w : Wrd} {y : Mem} {k : Nat} {F : Tsk→Tsk} (hk : k < w.ts.length) {u : Int} (u0 : 0≤u) : tsk ⟨y,w.ts.modify k F⟩ u=if u=k then F (tsk w k) else tsk w u :=
 eI (w:=w) (y:=y) (x:=(k : Int)) (F:=F) (by omega) (by omega) u0
theorem qb : ∀ (R : Nat) {v : Wrd},v.aS=v→(dg R v).aS=dg R v
 | 0,_,h=>h
 | R + 1,v,h=>by
  unfold dg
  split
  ·refine qb R ?_
   have : ∀ n j (v : Wrd),v.aS=v→(cf n j v).aS=cf n j v:=fun n=>by
    induction n with
    | zero=>intro j v hv;exact hv
    | succ n ih=>intro j v hv;exact ih (j + 1) _ (ze hv j)
   exact this _ _ v h
  ·exact h
theorem w5 {w : Wrd} (h : mD w) {k : Nat} {c : Cal} (hk : k < w.ts.length) (hc : aV w.m c=0) (h1 : c.kind≠1) (h4 : c.kind≠4∧c.kind≠5) (h6 : c.kind=6→c.slot∈(tsk w k).held) :
  doW w.bH ⟨k,false,false,c⟩=(⟨w.m,w.ts.modify k (begun c)⟩,0)∧(⟨w.m,w.ts.modify k (begun c)⟩ : Wrd).aS=⟨w.m,w.ts.modify k (begun c)⟩∧mD (dg 100 ⟨w.m,w.ts.modify k (begun c)⟩):=by
 have hb:=vn h.idle (u:=(k : Int)) (by omega) (by omega)
 have hp:=C3 hk hb hc (fun e=>absurd e h1) h6
 have hm : (⟨w.m,w.ts.modify k (begun c)⟩ : Wrd).aS=⟨w.m,w.ts.modify k (begun c)⟩:=sD h.aS (F:=begun c) (fun _=>rfl) _ _
 have hi : Inv ⟨w.m,w.ts.modify k (begun c)⟩:=by have:=lP h.inv ⟨k,false,false,c⟩;rwa [hp] at this
 have ho:=qi (c:=c) hk h.idle
 obtain ⟨e1,e2,e3⟩:=qc 100 hi h.acy
 refine ⟨?_,hm,e1,e2,?_,?_⟩
 ·unfold doW
  rw [if_neg (fun y=>y h.inv.bH.check.1),di,h.aS,hp,if_neg (by simp)]
 ·exact qb 100 hm
 ·refine te ?_ hi h.acy
  have:=BF ho
  have hle : aT w.m (tsk ⟨w.m,w.ts.modify k (begun c)⟩ k)≤40:=by
   rw [lC hk (by omega),if_pos rfl]
   show aF w.m (ck c)≤40
   unfold aF
   show (if c.kind=1 then 0 else if c.kind=2 then gY w.m (ck c) else if c.kind=3 then dX w.m (ck c) else if c.kind=4∨c.kind=5 then cj w.m (ck c) else 1)≤40
   rw [if_neg h1]
   split
   ·exact Nat.le_of_eq rfl
   ·split
    ·exact Nat.le_of_eq rfl
    ·rw [if_neg (by omega)];omega
  have : dN ⟨w.m,w.ts.modify k (begun c)⟩≤aT w.m (tsk ⟨w.m,w.ts.modify k (begun c)⟩ k):=this
  omega
theorem AZ {w : Wrd} (h : mD w) {k : Nat} (hk : k < w.ts.length) {a : Int} {l : List Int} (hl : (tsk w k).held=a :: l) :
  let c : Cal:=⟨6,⟨0,0⟩,0,0,a⟩
  (doW w.bH ⟨k,false,false,c⟩=(⟨w.m,w.ts.modify k (begun c)⟩,0))∧(⟨w.m,w.ts.modify k (begun c)⟩ : Wrd).aS=⟨w.m,w.ts.modify k (begun c)⟩∧mD (dg 100 ⟨w.m,w.ts.modify k (begun c)⟩) ∧
   (dg 100 ⟨w.m,w.ts.modify k (begun c)⟩).ts.length=w.ts.length∧∀ u : Int,0≤u→u < w.ts.length→(tsk (dg 100 ⟨w.m,w.ts.modify k (begun c)⟩) u).held=if u=k then l else (tsk w u).held:=by
 intro c
 have hin : a∈(tsk w k).held:=by rw [hl];simp
 obtain ⟨a0,a1⟩:=(h.inv.hd _ (bQ (t:=(k : Int)) (by omega) (by omega))).2.2 a hin
 have hc : aV w.m c=0:=by
  show aV w.m ⟨6,⟨0,0⟩,0,0,a⟩=0
  unfold aV
  rw [if_neg (by simp),if_neg (by simp),if_neg (by simp),if_pos rfl]
  show (if a < 0∨(w.m.slots.length : Int)≤a then (5 : Int) else 0)=0
  rw [if_neg (by omega)]
 obtain ⟨r1,r2,r3⟩:=w5 h (c:=c) hk hc (by show (6 : Int)≠1;omega) (by show (6 : Int)≠4∧(6 : Int)≠5;omega) fun _=>hin
 have ho:=qi (c:=c) hk h.idle
 have ht : ∀ u : Int,0≤u→tsk ⟨w.m,w.ts.modify k (begun c)⟩ u=if u=k then begun c (tsk w k) else tsk w u:=fun u u0=>lC hk u0
 obtain ⟨V,hV⟩ : ∃ V : Wrd,V=⟨w.m,w.ts.modify k (begun c)⟩:=⟨_,rfl⟩
 rw [← hV] at r1 r2 r3 ho ht ⊢
 have hVl : V.ts.length=w.ts.length:=by rw [hV];simp
 have hkt : tsk V k=begun c (tsk w k):=by rw [ht k (by omega),if_pos rfl]
 have hb : (tsk V k).busy=true:=by rw [hkt];rfl
 have hkV : k < V.ts.length:=by omega
 obtain ⟨s1,s2,s3,s4,s5⟩:=rU hkV hb
 have hn : gT V.m (tsk V k).f k=aD (ck c) 0:=by
  rw [hkt];rfl
 have hi2 : dB (sw V k)=false:=zQ fun u u0 u1=>by
  by_cases e : u=k
  ·rw [e,s5,hn];rfl
  ·exact xY ho hkV u u0 u1 e
 have he : dg 100 V=sw V k:=by
  rw [show (100 : Nat)=99 + 1 from rfl,zZ ho hkV hb 99]
  exact wR hi2 99
 rw [he] at r3 ⊢
 refine ⟨r1,r2,r3,s2.trans hVl,fun u u0 u1=>?_⟩
 by_cases e : u=k
 ·subst e
  rw [if_pos rfl]
  have hheld : (tsk V k).held=a :: l:=by rw [hkt];exact hl
  have hcs : (tsk V k).f.c=c:=by rw [hkt];rfl
  have hix : indexOf (tsk V k).f.c.slot (tsk V k).held 0=0:=by
   rw [hcs,hheld]
   show indexOf a (a :: l) 0=0
   unfold indexOf
   rw [if_pos rfl];rfl
  have hst : ((cG V k).1.ts.getD k default).held=l:=by
   have hk6 : (tsk V k).f.c.kind=6:=by rw [hcs]
   unfold cG
   rw [if_neg (by rw [hb];simp),if_neg (by omega),if_neg (by omega),if_neg (by omega),if_neg (by omega),hix,if_pos (by omega)]
   have:=lC (w:=V) (y:=put V.m (tsk V k).f.c.slot) (F:=fun t=>{ t with busy:=!(aD (tsk V k).f 0).done,f:=aD (tsk V k).f 0,held:=(tsk V k).held.take (0 : Int).toNat ++ (tsk V k).held.drop ((0 : Int) + 1).toNat}) hkV (u:=(k : Int)) (by omega)
   rw [if_pos rfl] at this
   show (tsk ⟨_,_⟩ (k : Int)).held=l
   refine (congrArg Tsk.held this).trans ?_
   rw [hheld];rfl
  unfold sw
  rw [if_pos hb,rC hkV,oC (by omega) (by have:=(rX (w:=V) (x:=k) (by omega) (by omega) hb).2.2.2.2;omega)]
  show (tsk (cG V k).1 k).held=l
  unfold tsk
  rw [Int.toNat_natCast]
  exact hst
 ·rw [if_neg e,(s3 u u0 (by omega) e).2.2,ht u u0,if_neg e]
theorem CR {w : Wrd} (h : mD w) {fl : dV} {rest : List dV} (hf : bl w.m=fl :: rest) :
  let c : Cal:=⟨3,fl.k,0,0,0⟩
  (doW w.bH ⟨0,false,false,c⟩=(⟨w.m,w.ts.modify 0 (begun c)⟩,0))∧(⟨w.m,w.ts.modify 0 (begun c)⟩ : Wrd).aS=⟨w.m,w.ts.modify 0 (begun c)⟩∧mD (dg 100 ⟨w.m,w.ts.modify 0 (begun c)⟩) ∧
   (dg 100 ⟨w.m,w.ts.modify 0 (begun c)⟩).ts.length=w.ts.length∧(∀ u : Int,0≤u→u < w.ts.length→(tsk (dg 100 ⟨w.m,w.ts.modify 0 (begun c)⟩) u).held=(tsk w u).held)∧bl (dg 100 ⟨w.m,w.ts.modify 0 (begun c)⟩).m=rest:=by
 intro c
 have hC:=h.inv.ch
 have hl1:=h.inv.lo.1
 obtain ⟨q1,q2,q3,q4,q5,q6,q7⟩:=s9 hC (show fl∈bl w.m by rw [hf];simp)
 have hkey : Key.Ok fl.k:=by
  have:=(hC.mem.sl (i:=fl.slot.toNat) (by omega)).k
  rw [← q3];exact this
 have hc : aV w.m c=0:=by
  show aV w.m ⟨3,fl.k,0,0,0⟩=0
  unfold aV
  rw [if_pos (.inr rfl)]
  exact (eU _).2 hkey
 obtain ⟨r1,r2,r3⟩:=w5 h (k:=0) (c:=c) (by omega) hc (by show (3 : Int)≠1;omega) (by show (3 : Int)≠4∧(3 : Int)≠5;omega) fun e=>by have e : (3 : Int)=6:=e;omega
 have ho:=qi (k:=0) (c:=c) (by omega) h.idle
 have hlk:=yA h.inv h.idle
 have hns:=hC.mem.ns
 obtain ⟨g,x,ha,hx,_,_,hout⟩:=yI hC hkey (fun i hi=>hlk i (by rw [hC.mem.nl];exact hi))
 have ht:=lC (w:=w) (y:=w.m) (k:=0) (F:=begun c) (by omega) (u:=((0 : Nat) : Int)) (by omega)
 rw [if_pos rfl] at ht
 have hs:=tV (K:=3) (k:=0) (st:=dp) (fun w' hb' hk'=>(Aw (w:=w') (k:=((0 : Nat) : Int)) hb').2.1 hk') (fun m f hd hk'=>(kY 0 hk' hd).1) (n:=2 * w.m.slots.length + 6) (R:=100) (w:=⟨w.m,w.ts.modify 0 (begun c)⟩) (g:=g) (y:=x) (by omega) r2 ho (by simp;omega) (by rw [ht];rfl) (by rw [ht];rfl) (by rw [ht];rfl) (by rw [ht];exact ha)
 refine ⟨r1,r2,r3,?_,fun u u0 u1=>?_,?_⟩
 ·rw [hs];simp
 ·rw [hs]
  show (tsk ⟨x,(w.ts.modify 0 (begun c)).modify 0 (xV g)⟩ u).held=_
  rw [az]
  have:=lC (w:=w) (y:=x) (k:=0) (F:=fun t=>xV g (begun c t)) (by omega) u0
  rw [this]
  split
  ·rename_i e;rw [e];rfl
  ·rfl
 ·rw [hs]
  show bl x=rest
  rcases hout with ⟨hn,_⟩ | ⟨_,_,he,_⟩
  ·exact absurd rfl (hn fl (by rw [hf];simp))
  ·rw [he,hf]
   have hnd:=CJ hC
   rw [hf,List.map_cons,List.nodup_cons] at hnd
   rw [List.filter_cons,if_neg (by simp)]
   exact List.filter_eq_self.2 fun z hz=>by
    have : z.k≠fl.k:=fun e=>hnd.1 (by rw [← e];exact List.mem_map.2 ⟨z,hz,rfl⟩)
    simpa using this
theorem C8 {w : Wrd} (h : mD w) (hh : ∀ u : Int,0≤u→u < w.ts.length→(tsk w u).held=[]) (hf : bl w.m=[]) : w.m.free.length=w.m.slots.length:=by
 have hm:=h.inv.ch.mem
 have hch : ∀ b,b < w.m.heads.length→chL w.m b=[]:=fun b hb=>by
  have hk : ∀ n j,cat w.m n j=[]→∀ i,j≤i→i < j + n→chL w.m i=[]:=fun n=>by
   induction n with
   | zero=>intro j _ i h1 h2;omega
   | succ n ih =>
    intro j hj i h1 h2
    simp only [cat,List.append_eq_nil_iff,List.map_eq_nil_iff] at hj
    by_cases e : j=i
    ·rw [← e];exact hj.1
    ·exact ih (j + 1) hj.2 i (by omega) (by omega)
  rw [pX] at hf
  exact hk _ 0 hf b (by omega) (by omega)
 have hr : ∀ k : Nat,k < w.m.slots.length→(msl w.m k).refs=0:=fun k hk=>by
  have h1:=h.inv.rf k hk
  have h2 : fe w.m k=0:=by
   have : fe w.m k≤w.m.heads.length * 0:=iR fun i _ hi=>by
    show (chL w.m i).count (k : Int)≤0
    rw [hch i (by omega)];simp
   omega
  have h3 : ∀ l : List Tsk,(∀ t∈l,t∈w.ts)→gZ k l=0:=fun l=>by
   induction l with
   | nil=>intro _;rfl
   | cons t l ih =>
    intro hl
    obtain ⟨u,u0,u1,rfl⟩:=mM (hl t (by simp))
    have hb:=vn h.idle u0 u1
    have e1 : cg (tsk w u)=-1:=if_neg fun p=>by rw [hb] at p;cases p.1
    simp only [gZ]
    rw [ih fun v hv=>hl v (by simp [hv]),cq e1,hh u u0 u1,if_neg (by omega)];rfl
  rw [h1,h2,h3 w.ts fun t ht=>ht];rfl
 have h1:=iC hm.nodup fun a ha=>⟨(hm.free a ha).1,(hm.free a ha).2.1⟩
 have h2 : ((List.range w.m.slots.length).map fun i : Nat=>(i : Int)) ⊆ w.m.free:=fun a ha=>by
  obtain ⟨i,hi,rfl⟩:=List.mem_map.1 ha
  have hi:=List.mem_range.1 hi
  exact hm.leak i hi (hr i hi)
 have h3 : ((List.range w.m.slots.length).map fun i : Nat=>(i : Int)).Nodup:=List.pairwise_map.2 (List.Pairwise.imp (fun h e=>h (by omega)) List.nodup_range)
 have h4:=h3.length_le_of_subset h2
 simp at h4
 omega
end Go.Proofs.Ytpmamacjepcdmaa

namespace Go.Proofs.Ytpmamacjepcdmaa
open Go Go.Sy Go.RowKit
set_option linter.unusedSimpArgs false
set_option linter.unusedVariables false
theorem uz {w : Wrd} {k : Nat} (h : k < w.ts.length) : ((aX w.ts).rows.getD k []).getD 15 .u=ae (tsk w k).held:=fk Tsk.row w.ts k 15 h
def s32 : Sig:=⟨[.one (.int .i64),.one (.int .i64),.one (.int .i64),.one (.fz kQ)],[.one (.bool)]⟩
def d32 : DC:=⟨s32,fun _=>True,fun _=>[.b true]⟩
def l32 : List (Nat × Ct):=[(78,d78.ct),(79,d79.ct),(80,d80.ct),(137,d137.ct),(140,d140.ct),(134,d134.ct),(51,d51.ct)]
noncomputable def z32 : Cx:={ T:=ttA,C:=sigs l32,F:=[(139,Try.f139)],hints:=[⟨32,12,false,[(56,.lt)],[(0,0,.fz kS),(0,1,.fz kI),(0,2,.fz kI),(0,3,.fz kI),(0,4,.lt),(0,5,.fz kT),(15,0,.lt)],[],[],0⟩,⟨32,14,false,[],[(0,0,.fz kS),(0,1,.fz kI),(0,2,.fz kI),(0,3,.fz kI),(0,4,.lt),(0,5,.fz kT),(15,0,.lt)],[],[],0⟩,⟨32,22,false,[(90,.lt)],[(0,0,.fz kS),(0,1,.fz kI),(0,2,.fz kI),(0,3,.fz kI),(0,4,.lt),(0,5,.fz kT),(15,0,.lt)],[],[],0⟩],sig:=s32}
def t32 : Tree :=
 (.call 78 [.var 0,.var 1,.var 2] 4
 (.call 79 [] 11
 (.ite (.not (.var 11))
 (.call 79 [] 12
 (.ret [.var 12]))
 (.ite (.not (.eq (.var 10) (.int 0)))
 (.call 79 [] 12
 (.ret [.var 12]))
 (.need (.le (.int 0) (.min (.len (.var 3)) (.int 300)))
 (.need (.le (.min (.len (.var 3)) (.int 300)) (.len (.var 3)))
 (.need (.clean (.var 9) 15)
 (.call 80 [.var 4,.var 5,.var 6,.var 7,.var 8,.shuts (.var 9) 15,.take (.min (.len (.var 3)) (.int 300)) (.var 3)] 12
 (.ite (.not (.eq (.var 20) (.int 0)))
 (.ret [.bool false])
 (.call 137 [.var 12,.var 13,.var 14,.var 15,.var 16,.var 17,.int 400] 21
 (.ite (.not (.var 27))
 (.ret [.bool false])
 (.loop 28 [.int .i64,.sl 48 [.int .i64,.int .i64,.int .i64,.int .i64,.bool,.int .i64],.sl 8 [.int .i64],.sl 8 [.int .i64],.sl 8 [.int .i64],.int .i64,.sl 160 [.bool,.int .i64,.int .i64,.int .i64,.int .i64,.int .i64,.int .i64,.int .i64,.int .i64,.int .i64,.int .i64,.int .i64,.sl 16 [.int .i64,.int .i64],.bool,.int .i64,.sl 8 [.int .i64]],.bool] [.int 0,.var 21,.var 22,.var 23,.var 24,.var 25,.var 26,.var 27]
 (.ite (.lt (.var 29) (.len (.var 26)))
 (.loop 37 [.sl 48 [.int .i64,.int .i64,.int .i64,.int .i64,.bool,.int .i64],.sl 8 [.int .i64],.sl 8 [.int .i64],.sl 8 [.int .i64],.int .i64,.sl 160 [.bool,.int .i64,.int .i64,.int .i64,.int .i64,.int .i64,.int .i64,.int .i64,.int .i64,.int .i64,.int .i64,.int .i64,.sl 16 [.int .i64,.int .i64],.bool,.int .i64,.sl 8 [.int .i64]],.bool] [.var 30,.var 31,.var 32,.var 33,.var 34,.var 35,.var 36]
 (.need (.le (.int 0) (.var 29))
 (.need (.lt (.var 29) (.len (.var 43)))
 (.ite (.lt (.int 0) (.len (.cell (.var 43) (.var 29) 15)))
 (.call 140 [.var 38,.var 39,.var 40,.var 41,.var 42,.var 43,.var 29,.bool false,.bool false,.int 6,.int 0,.int 0,.int 0,.int 0,.cell (.cell (.var 43) (.var 29) 15) (.int 0) 0] 45
 (.ite (.not (.eq (.var 51) (.int 0)))
 (.ret [.bool false])
 (.need (.clean (.var 50) 15)
 (.call 137 [.var 45,.var 46,.var 47,.var 48,.var 49,.shuts (.var 50) 15,.int 100] 52
 (.ite (.not (.var 58))
 (.ret [.bool false])
 (.back 37 [.var 52,.var 53,.var 54,.var 55,.var 56,.var 57,.var 58]))))))
 (.need (.fit (.add (.var 29) (.int 1)))
 (.back 28 [.add (.var 29) (.int 1),.var 38,.var 39,.var 40,.var 41,.var 42,.var 43,.var 44]))))))
 (.call 134 [.var 30,.var 31,.var 32,.var 33,.var 34,.var 35] 37
 (.ite (.not (.eq (.var 38) (.int 0)))
 (.ret [.bool false])
 (.loop 39 [.int .i64,.sl 48 [.int .i64,.int .i64,.int .i64,.int .i64,.bool,.int .i64],.sl 8 [.int .i64],.sl 8 [.int .i64],.sl 8 [.int .i64],.int .i64,.sl 160 [.bool,.int .i64,.int .i64,.int .i64,.int .i64,.int .i64,.int .i64,.int .i64,.int .i64,.int .i64,.int .i64,.int .i64,.sl 16 [.int .i64,.int .i64],.bool,.int .i64,.sl 8 [.int .i64]],.bool] [.int 0,.var 30,.var 31,.var 32,.var 33,.var 34,.var 35,.var 36]
 (.ite (.lt (.var 40) (.len (.var 37)))
 (.need (.le (.int 0) (.var 40))
 (.call 140 [.var 41,.var 42,.var 43,.var 44,.var 45,.var 46,.int 0,.bool false,.bool false,.int 3,.cell (.var 37) (.var 40) 0,.cell (.var 37) (.var 40) 1,.int 0,.int 0,.int 0] 48
 (.ite (.not (.eq (.var 54) (.int 0)))
 (.ret [.bool false])
 (.need (.clean (.var 53) 15)
 (.call 137 [.var 48,.var 49,.var 50,.var 51,.var 52,.shuts (.var 53) 15,.int 100] 55
 (.ite (.not (.var 61))
 (.ret [.bool false])
 (.need (.fit (.add (.var 40) (.int 1)))
 (.back 39 [.add (.var 40) (.int 1),.var 55,.var 56,.var 57,.var 58,.var 59,.var 60,.var 61]))))))))
 (.ite (.eq (.len (.var 43)) (.len (.var 41)))
 (.call 51 [.var 41,.var 42,.var 43,.var 44,.var 45] 48
 (.ret [.eq (.var 48) (.int 0)]))
 (.ret [.bool false])))))))))))))))))))
theorem run32 : run z32 6000 [.code (Try.f32.body.getD .skip),.fin (br z32 Try.f32.results.toList 50)] { fn:=32,tmps:=z32.sig.aL ++ List.replicate (Try.f32.ntmps - z32.sig.aL.length) (.v (.one .undef)),stk:=[],h:=z32.sig.h0,nx:=z32.sig.ins.length,known:=[]}=t32:=by kernel_rfl
set_option maxHeartbeats 8000000 in
theorem ok32 : cA Try.prog 32 d32.ct:=by
 refine aB (d:=d32) (Z:=z32) (Γ:=gam l32) (fn:=Try.f32) (c:=Try.f32.body.getD .skip) (bc tok mixed (all_cons ok78 (all_cons ok79 (all_cons ok80 (all_cons ok137 (all_cons ok140 (all_cons ok134 (all_cons ok51 all_nil))))))) (jY (c:=Try.f139.body.getD .skip) Try.func139 (by kernel_rfl) (by kernel_rfl) bd)) Try.func32 (by kernel_rfl) (by kernel_rfl) rfl run32 fun E hk hp=>?_
 obtain ⟨hk0,hk1,hk2,hk3,_⟩:=hk
 obtain ⟨x,e0⟩:=ok_int (d:=E 0) hk0
 obtain ⟨x2,e1⟩:=ok_int (d:=E 1) hk1
 obtain ⟨x3,e2⟩:=ok_int (d:=E 2) hk2
 obtain ⟨l,e3,b3⟩:=wm (d:=E 3) hk3
 have b3 : l.length * 64≤140737488355328:=b3
 have el : aH E d32.sig.ins.length=[.i x,.i x2,.i x3,dw l]:=by
  show [E 0,E 1,E 2,E 3]=_
  rw [e0,e1,e2,e3]
 rw [el] at hp
 rw [el]
 rw [Env.bE el]
 clear el e0 e1 e2 e3
 unfold t32
 obtain ⟨N,hN⟩ : ∃ N,oU x x2 x3=N:=⟨_,rfl⟩
 refine ai d78 [aq N.1.m.slots,ae N.1.m.heads,ae N.1.m.free,ae N.1.m.af,.i N.1.m.now,ax N.1.ts,.i N.2] rfl trivial (by simp only [nrm,xdn,reduceIte,Nat.reduceLT,Nat.reduceSub,Nat.reduceAdd,d78,hN];rfl) (ai d79 [.b true] rfl trivial rfl (ah (fun hn=>?_) (fun _=>ah (fun _=>ai d79 [.b true] rfl trivial rfl (aj (by simp only [nrm,xdn,reduceIte,Nat.reduceLT,Nat.reduceSub,Nat.reduceAdd];rfl))) (fun h0=>?_))))
 ·skip
  simp only [nrm,xdn,reduceIte,Nat.reduceLT,Nat.reduceSub,Nat.reduceAdd] at hn
  simp at hn
 simp only [nrm,xdn,reduceIte,Nat.reduceLT,Nat.reduceSub,Nat.reduceAdd] at h0
 have h0 : N.2=0:=by simpa using h0
 have hL0 : Inv N.1:=by rw [← hN] at h0 ⊢;exact DI h0
 have hA0 : Acy N.1.m:=by rw [← hN] at h0 ⊢;exact Acy.new h0
 obtain ⟨mn,hmn⟩ : ∃ mn : Nat,(if (300 : Int) < (l.length : Int) then (300 : Int) else (l.length : Int))=mn∧mn=min l.length 300:=⟨min l.length 300,by split <;> omega,rfl⟩
 obtain ⟨r,hr⟩ : ∃ r,r9 N.1.bH (l.take mn)=r:=⟨_,rfl⟩
 obtain ⟨r0,r1,r2⟩:=run_ok hL0.aS hA0 (l:=l.take mn) (by rw [List.length_take];omega)
 rw [hr] at r0 r1 r2
 refine ag (by simp only [nrm,xdn,reduceIte,Nat.reduceLT,Nat.reduceSub,Nat.reduceAdd,gC];omega) (ag (by simp only [nrm,xdn,reduceIte,Nat.reduceLT,Nat.reduceSub,Nat.reduceAdd,gC];omega) (ag (by simp only [nrm,xdn,reduceIte,Nat.reduceLT,Nat.reduceSub,Nat.reduceAdd];exact aI _) ?_))
 refine ai d80 (r.1.w.gi ++ [ae r.1.said,fw r.1.past,.i r.2]) rfl trivial ?_ ?_
 ·simp only [nrm,xdn,reduceIte,Nat.reduceLT,Nat.reduceSub,Nat.reduceAdd,bW,gC,hmn.1,Int.toNat_natCast]
  rw [show CD.l ((dw l).rows.take mn)=dw (l.take mn) by simp only [dw,CD.ay,List.map_take]]
  simp only [d80,dm,List.getD_cons_zero,List.getD_cons_succ,kv]
  rw [← hr]
 refine ah (fun hn=>?_) (fun _=>?_)
 ·simp only [nrm,xdn,reduceIte,Nat.reduceLT,Nat.reduceSub,Nat.reduceAdd,Wrd.gi,Mem.cds,lca,r0] at hn
  simp at hn
 obtain ⟨V,hV⟩ : ∃ V,dg 400 r.1.w.aS=V:=⟨_,rfl⟩
 have hs:=DB r1
 have hb:=te (R:=400) (w:=r.1.w.aS) (by omega) r1 r2
 obtain ⟨v1,v2,v3⟩:=qc 400 r1 r2
 have v4 : (dg 400 r.1.w.aS).aS=dg 400 r.1.w.aS:=qb 400 (by simp only [Wrd.aS,List.map_map];rfl)
 rw [hV] at hb v1 v2 v3 v4
 have C0 : mD V:=⟨v1,v2,v4,hb⟩
 refine ai d137 (V.gi ++ [.b true]) rfl ?_ ?_ (ah (fun hn=>?_) (fun _=>?_))
 ·simp only [nrm,xdn,reduceIte,Nat.reduceLT,Nat.reduceSub,Nat.reduceAdd,Wrd.gi,Mem.cds,lca,d137,dm,aw]
  exact ⟨by rw [di];exact r1,by omega⟩
 ·simp only [nrm,xdn,reduceIte,Nat.reduceLT,Nat.reduceSub,Nat.reduceAdd,Wrd.gi,Mem.cds,lca,d137,dm,aw]
  rw [di]
  show (dg 400 r.1.w.aS).gi ++ [.b (!dB (dg 400 r.1.w.aS))]=_
  rw [hV,hb];rfl
 ·simp only [nrm,xdn,reduceIte,Nat.reduceLT,Nat.reduceSub,Nat.reduceAdd,Wrd.gi,Mem.cds,lca] at hn
  simp at hn
 obtain ⟨n,hn⟩ : ∃ n,V.ts.length=n:=⟨_,rfl⟩
 have hn5 : 1≤n∧n≤5:=by rw [← hn];exact v1.lo
 clear hs r0 r1 r2 hr hL0 hA0
 refine bY (fun ds=>∃ (i : Nat) (w : Wrd),ds=[.i i,aq w.m.slots,ae w.m.heads,ae w.m.free,ae w.m.af,.i w.m.now,aX w.ts,.b true]∧mD w∧w.ts.length=n∧i≤n∧∀ u : Int,0≤u→u < i→(tsk w u).held=[]) (fun ds=>n - (ds.getD 0 .u).int.toNat) ⟨0,V,?_,C0,hn,by omega,fun u u0 u1=>by omega⟩ ?_
 ·simp only [nrm,xdn,reduceIte,Nat.reduceLT,Nat.reduceSub,Nat.reduceAdd,Wrd.gi,Mem.cds,lca];rfl
 rintro ds - ⟨i,w,rfl,hw,hwl,hi,hh⟩
 refine ah (fun h=>?_) (fun h=>?_)
 ·simp only [nrm,xdn,reduceIte,Nat.reduceLT,Nat.reduceSub,Nat.reduceAdd,Wrd.gi,Mem.cds,lca,cz] at h
  refine bY (fun ds=>∃ w : Wrd,ds=[aq w.m.slots,ae w.m.heads,ae w.m.free,ae w.m.af,.i w.m.now,aX w.ts,.b true]∧mD w∧w.ts.length=n∧∀ u : Int,0≤u→u < i→(tsk w u).held=[]) (fun ds=>(((ds.getD 5 .u).rows.getD i []).getD 15 .u).rows.length) ⟨w,?_,hw,hwl,hh⟩ ?_
  ·simp only [nrm,xdn,reduceIte,Nat.reduceLT,Nat.reduceSub,Nat.reduceAdd]
  clear hw hwl hh
  rintro ds - ⟨w,rfl,hw,hwl,hh⟩
  have hcell : ((aX w.ts).rows.getD i []).getD 15 .u=ae (tsk w i).held:=uz (by omega)
  refine ag (by simp only [nrm,xdn,reduceIte,Nat.reduceLT,Nat.reduceSub,Nat.reduceAdd];omega) (ag (by simp only [nrm,xdn,reduceIte,Nat.reduceLT,Nat.reduceSub,Nat.reduceAdd,cz];omega) (ah (fun h1=>?_) (fun h1=>?_)))
  ·simp only [nrm,xdn,reduceIte,Nat.reduceLT,Nat.reduceSub,Nat.reduceAdd,Int.toNat_natCast,hcell,av] at h1
   obtain ⟨a,t,hat⟩ : ∃ a t,(tsk w i).held=a :: t:=by
    cases e : (tsk w i).held with
    | nil=>rw [e] at h1;simp at h1
    | cons a t=>exact ⟨a,t,rfl⟩
   obtain ⟨l1,l2,l3,l4,l5⟩:=AZ hw (k:=i) (by omega) hat
   have hc0 : ((ae (tsk w i).held).rows.getD 0 []).getD 0 .u=.i a:=by rw [hat];rfl
   obtain ⟨u,hu⟩ : ∃ u : Wrd,u=⟨w.m,w.ts.modify i (begun ⟨6,⟨0,0⟩,0,0,a⟩)⟩:=⟨_,rfl⟩
   rw [← hu] at l1 l2 l3 l4 l5
   have hui : Inv u:=by
    have hp:=lP hw.inv ⟨i,false,false,⟨6,⟨0,0⟩,0,0,a⟩⟩
    unfold doW at l1
    rw [if_neg (fun y=>y hw.inv.bH.check.1),di,hw.aS] at l1
    split at l1
    ·rename_i e
     exact absurd (congrArg Prod.snd l1) e
    ·rw [congrArg Prod.fst l1] at hp;exact hp
   refine ai d140 [aq u.m.slots,ae u.m.heads,ae u.m.free,ae u.m.af,.i u.m.now,ax u.ts,.i 0] rfl trivial ?_ (ah (fun hn=>?_) (fun _=>?_))
   ·simp only [nrm,xdn,reduceIte,Nat.reduceLT,Nat.reduceSub,Nat.reduceAdd,Int.toNat_natCast,Int.toNat_zero,hcell,hc0,d140,dm,aw,List.drop_succ_cons,List.drop_zero,nL,cx]
    show (doW w.bH ⟨i,false,false,⟨6,⟨0,0⟩,0,0,a⟩⟩).1.cds ++ [.i (doW w.bH ⟨i,false,false,⟨6,⟨0,0⟩,0,0,a⟩⟩).2]=_
    rw [l1];rfl
   ·skip
    simp only [nrm,xdn,reduceIte,Nat.reduceLT,Nat.reduceSub,Nat.reduceAdd] at hn
    simp at hn
   obtain ⟨Z,hZ⟩ : ∃ Z,dg 100 u=Z:=⟨_,rfl⟩
   rw [hZ] at l3 l4 l5
   refine ag (by simp only [nrm,xdn,reduceIte,Nat.reduceLT,Nat.reduceSub,Nat.reduceAdd];exact aI _) (ai d137 (Z.gi ++ [.b true]) rfl ?_ ?_ (ah (fun hn=>?_) (fun _=>?_)))
   ·simp only [nrm,xdn,reduceIte,Nat.reduceLT,Nat.reduceSub,Nat.reduceAdd,bW,d137,dm,aw]
    exact ⟨by rw [di];exact hui.aS,by omega⟩
   ·simp only [nrm,xdn,reduceIte,Nat.reduceLT,Nat.reduceSub,Nat.reduceAdd,bW,d137,dm,aw]
    rw [di]
    show (dg 100 u.aS).gi ++ [.b (!dB (dg 100 u.aS))]=_
    rw [l2,hZ,l3.idle];rfl
   ·simp only [nrm,xdn,reduceIte,Nat.reduceLT,Nat.reduceSub,Nat.reduceAdd,Wrd.gi,Mem.cds,lca] at hn
    simp at hn
   ·refine bU ⟨⟨Z,?_,l3,l4.trans hwl,fun v v0 v1=>?_⟩,?_⟩
    ·simp only [nrm,xdn,reduceIte,Nat.reduceLT,Nat.reduceSub,Nat.reduceAdd,Wrd.gi,Mem.cds,lca]
    ·rw [l5 v v0 (by omega),if_neg (by omega)];exact hh v v0 v1
    ·have hc2 : ((aX Z.ts).rows.getD i []).getD 15 .u=ae (tsk Z i).held:=uz (by omega)
     have l6:=l5 i (by omega) (by omega)
     rw [if_pos rfl] at l6
     simp only [nrm,xdn,reduceIte,Nat.reduceLT,Nat.reduceSub,Nat.reduceAdd,Wrd.gi,Mem.cds,lca,hcell,hc2,av,l6,hat]
     omega
  ·simp only [nrm,xdn,reduceIte,Nat.reduceLT,Nat.reduceSub,Nat.reduceAdd,Int.toNat_natCast,hcell,av] at h1
   have h15 : (tsk w i).held=[]:=List.length_eq_zero_iff.1 (by omega)
   refine a9 (by simp only [nrm,xdn,reduceIte,Nat.reduceLT,Nat.reduceSub,Nat.reduceAdd];omega) (iN (by decide) ⟨⟨i + 1,w,?_,hw,hwl,by omega,fun u u0 u1=>?_⟩,?_⟩)
   ·simp only [nrm,xdn,reduceIte,Nat.reduceLT,Nat.reduceSub,Nat.reduceAdd];rfl
   ·by_cases e : u=i
    ·rw [e];exact h15
    ·exact hh u u0 (by omega)
   ·simp only [nrm,xdn,reduceIte,Nat.reduceLT,Nat.reduceSub,Nat.reduceAdd];omega
 simp only [nrm,xdn,reduceIte,Nat.reduceLT,Nat.reduceSub,Nat.reduceAdd,Wrd.gi,Mem.cds,lca,cz] at h
 have hin : i=n:=by omega
 subst hin
 have hh : ∀ u : Int,0≤u→u < w.ts.length→(tsk w u).held=[]:=fun u u0 u1=>hh u u0 (by omega)
 have hLl : w.aS.bH=w.bH:=by simp only [Wrd.bH,Wrd.aS,List.map_map];rfl
 obtain ⟨j1,j2⟩:=hw.inv.bH.check
 have hfw : pY w.bH=(bl w.m,0):=by
  unfold pY jB
  rw [if_neg (fun y=>y j1),if_neg (fun y=>y j2)];rfl
 obtain ⟨L,hL⟩ : ∃ L,bl w.m=L:=⟨_,rfl⟩
 have hLlen : L.length≤48:=by rw [← hL];exact vu hw.inv.ch.mem
 refine ai d134 [eZ L,.i 0] rfl trivial ?_ (ah (fun hn=>?_) (fun _=>?_))
 ·simp only [nrm,xdn,reduceIte,Nat.reduceLT,Nat.reduceSub,Nat.reduceAdd,d134,dm,aw]
  rw [show Wrd.bH ⟨w.m,w.ts⟩=w.bH from rfl,hfw,hL]
 ·skip
  simp only [nrm,xdn,reduceIte,Nat.reduceLT,Nat.reduceSub,Nat.reduceAdd] at hn
  simp at hn
 refine bY (fun ds=>∃ (j : Nat) (w : Wrd),ds=[.i j,aq w.m.slots,ae w.m.heads,ae w.m.free,ae w.m.af,.i w.m.now,aX w.ts,.b true]∧mD w∧(∀ u : Int,0≤u→u < w.ts.length→(tsk w u).held=[])∧j≤L.length∧bl w.m=L.drop j) (fun ds=>L.length - (ds.getD 0 .u).int.toNat) ⟨0,w,?_,hw,hh,by omega,hL⟩ ?_
 ·simp only [nrm,xdn,reduceIte,Nat.reduceLT,Nat.reduceSub,Nat.reduceAdd];rfl
 clear hw hh hwl hfw j1 j2 hLl hL
 rintro ds - ⟨j,w,rfl,hw,hh,hj,hL⟩
 refine ah (fun h1=>?_) (fun h1=>?_)
 ·simp only [nrm,xdn,reduceIte,Nat.reduceLT,Nat.reduceSub,Nat.reduceAdd,jR] at h1
  obtain ⟨fl,hfl⟩ : ∃ fl,L.getD j default=fl:=⟨_,rfl⟩
  have hL2 : bl w.m=fl :: L.drop (j + 1):=by rw [hL,← hfl];exact dj (by omega)
  have c : ∀ o,((eZ L).rows.getD j []).getD o .u=fl.row.getD o .u:=fun o=>by rw [← hfl];exact fk dV.row L j o (by omega)
  have d0 : ((eZ L).rows.getD j []).getD 0 .u=.i fl.k.a:=c 0
  have d1 : ((eZ L).rows.getD j []).getD 1 .u=.i fl.k.b:=c 1
  obtain ⟨l1,l2,l3,l4,l5,l6⟩:=CR hw hL2
  obtain ⟨u,hu⟩ : ∃ u : Wrd,u=⟨w.m,w.ts.modify 0 (begun ⟨3,fl.k,0,0,0⟩)⟩:=⟨_,rfl⟩
  rw [← hu] at l1 l2 l3 l4 l5 l6
  have hui : Inv u:=by
   have hp:=lP hw.inv ⟨0,false,false,⟨3,fl.k,0,0,0⟩⟩
   unfold doW at l1
   rw [if_neg (fun y=>y hw.inv.bH.check.1),di,hw.aS] at l1
   split at l1
   ·rename_i e
    exact absurd (congrArg Prod.snd l1) e
   ·rw [congrArg Prod.fst l1] at hp;exact hp
  refine ag (by simp only [nrm,xdn,reduceIte,Nat.reduceLT,Nat.reduceSub,Nat.reduceAdd];omega) (ai d140 [aq u.m.slots,ae u.m.heads,ae u.m.free,ae u.m.af,.i u.m.now,ax u.ts,.i 0] rfl trivial ?_ (ah (fun hn=>?_) (fun _=>?_)))
  ·simp only [nrm,xdn,reduceIte,Nat.reduceLT,Nat.reduceSub,Nat.reduceAdd,Int.toNat_natCast,d0,d1,d140,dm,aw,List.drop_succ_cons,List.drop_zero,nL,cx]
   show (doW w.bH ⟨0,false,false,⟨3,fl.k,0,0,0⟩⟩).1.cds ++ [.i (doW w.bH ⟨0,false,false,⟨3,fl.k,0,0,0⟩⟩).2]=_
   rw [l1];rfl
  ·skip
   simp only [nrm,xdn,reduceIte,Nat.reduceLT,Nat.reduceSub,Nat.reduceAdd] at hn
   simp at hn
  obtain ⟨Z,hZ⟩ : ∃ Z,dg 100 u=Z:=⟨_,rfl⟩
  rw [hZ] at l3 l4 l5 l6
  refine ag (by simp only [nrm,xdn,reduceIte,Nat.reduceLT,Nat.reduceSub,Nat.reduceAdd];exact aI _) (ai d137 (Z.gi ++ [.b true]) rfl ?_ ?_ (ah (fun hn=>?_) (fun _=>?_)))
  ·simp only [nrm,xdn,reduceIte,Nat.reduceLT,Nat.reduceSub,Nat.reduceAdd,bW,d137,dm,aw]
   exact ⟨by rw [di];exact hui.aS,by omega⟩
  ·simp only [nrm,xdn,reduceIte,Nat.reduceLT,Nat.reduceSub,Nat.reduceAdd,bW,d137,dm,aw]
   rw [di]
   show (dg 100 u.aS).gi ++ [.b (!dB (dg 100 u.aS))]=_
   rw [l2,hZ,l3.idle];rfl
  ·simp only [nrm,xdn,reduceIte,Nat.reduceLT,Nat.reduceSub,Nat.reduceAdd,Wrd.gi,Mem.cds,lca] at hn
   simp at hn
  ·refine a9 (by simp only [nrm,xdn,reduceIte,Nat.reduceLT,Nat.reduceSub,Nat.reduceAdd];omega) (bU ⟨⟨j + 1,Z,?_,l3,fun v v0 v1=>?_,by omega,l6⟩,?_⟩)
   ·simp only [nrm,xdn,reduceIte,Nat.reduceLT,Nat.reduceSub,Nat.reduceAdd,Wrd.gi,Mem.cds,lca];rfl
   ·rw [l5 v v0 (by omega)];exact hh v v0 (by omega)
   ·simp only [nrm,xdn,reduceIte,Nat.reduceLT,Nat.reduceSub,Nat.reduceAdd];omega
 ·simp only [nrm,xdn,reduceIte,Nat.reduceLT,Nat.reduceSub,Nat.reduceAdd,jR] at h1
  have hjl : j=L.length:=by omega
  have hfree:=C8 hw hh (by rw [hL,hjl];simp)
  refine ah (fun _=>ai d51 [.i (cI w.m)] rfl trivial (by simp only [nrm,xdn,reduceIte,Nat.reduceLT,Nat.reduceSub,Nat.reduceAdd,d51,mem_of,aw]) (aj ?_)) (fun hn=>?_)
  ·simp only [nrm,xdn,reduceIte,Nat.reduceLT,Nat.reduceSub,Nat.reduceAdd]
   rw [(dv w.m).2 hw.inv.ch.mem];rfl
  ·simp only [nrm,xdn,reduceIte,Nat.reduceLT,Nat.reduceSub,Nat.reduceAdd,av,aJ] at hn
   rw [hfree] at hn
   simp at hn
end Go.Proofs.Ytpmamacjepcdmaa
