import Derived.Test.YtpmamacjepcdmaaCStory3
namespace Go.Proofs.Ytpmamacjepcdmaa
open Go Go.Sy Go.RowKit
set_option linter.unusedSimpArgs false
set_option linter.unusedVariables false
def IH (p : Pst) (M : List Mom) : Nat→Nat→Option Nat
 | _,0=>none
 | j,n + 1=>if p.fr≤j∧JD p M j=true then some j else IH p M (j + 1) n
theorem Ko {p : Pst} {M : List Mom} : ∀ (n j : Nat),p.fr≤j→IH p M j n=Iu p M j n
 | 0,_,_=>rfl
 | n + 1,j,h=>by
  simp only [IH,Iu]
  rw [Ko n (j + 1) (by omega)]
  by_cases ha : JD p M j=true
  ·rw [if_pos ⟨h,ha⟩,if_pos ha]
  ·rw [if_neg (fun y=>ha y.2),if_neg ha]
theorem JT {p : Pst} {M : List Mom} {fr : Nat} (hf : p.fr=fr) (n : Nat) : ∀ (d j : Nat),j + d=fr→IH p M j (d + n)=IH p M fr n
 | 0,j,h=>by
  have : j=fr:=by omega
  rw [this,Nat.zero_add]
 | d + 1,j,h=>by
  rw [show d + 1 + n=(d + n) + 1 by omega]
  simp only [IH]
  rw [if_neg (fun y=>by omega),JT hf n d (j + 1) (by omega)]
theorem LR {p : Pst} : ∀ {l : List Pik} {i : Nat} {w : Wrd} {acc M : List Mom} {found : Int},acc.length=i + 1→acc.getD i default=Hl w→Il l w acc=(M,0) →
  JX p l i w found=if 0≤found then (found,0) else LK (IH p M i l.length)
 | [],i,w,acc,M,found,_,_,_=>by
  show (if found < 0 then ((0 : Int),(5 : Int)) else (found,0))=_
  by_cases h : found < 0
  ·rw [if_pos h,if_neg (by omega)];rfl
  ·rw [if_neg h,if_pos (by omega)]
 | x :: l,i,w,acc,M,found,h1,h2,h=>by
  obtain ⟨v,hv⟩ : ∃ v,Hc w x=v:=⟨_,rfl⟩
  have h : (if Hj (Hc w x)≠0 then ([],Hj (Hc w x)) else Il l (Hc w x) (acc ++ [Hl (Hc w x)]))=(M,0):=h
  show (if Hj (Hc w x)≠0 then (0,Hj (Hc w x)) else JX p l (i + 1) (Hc w x) (if found < 0∧p.fr≤i∧HR p (findF (Hl w).1 p.c.k) (findF (Hl (Hc w x)).1 p.c.k) w.m.now (Hc w x).m.now=true then (i : Int) else found))=_
  rw [hv] at h ⊢
  split at h
  ·rename_i he;exact absurd (Prod.mk.inj h).2 he
  ·rename_i he
   rw [if_neg he]
   have k1 : (acc ++ [Hl v]).getD (i + 1) default=Hl v:=by
    rw [List.getD_eq_getElem?_getD,List.getElem?_append_right (by omega),h1,Nat.sub_self];rfl
   have k0 : (acc ++ [Hl v]).getD i default=Hl w:=by
    rw [← h2,List.getD_eq_getElem?_getD,List.getElem?_append_left (by omega),← List.getD_eq_getElem?_getD]
   rw [LR (l:=l) (i:=i + 1) (M:=M) (by rw [List.length_append,h1];rfl) k1 h]
   obtain ⟨_,hpre⟩:=Kh h
   have m0 : M.getD i default=Hl w:=by rw [hpre i (by rw [List.length_append,h1];omega),k0]
   have m1 : M.getD (i + 1) default=Hl v:=by rw [hpre (i + 1) (by rw [List.length_append,h1];simp),k1]
   have ha : JD p M i=HR p (findF (Hl w).1 p.c.k) (findF (Hl v).1 p.c.k) w.m.now v.m.now:=by unfold JD;rw [m0,m1];rfl
   rw [← ha]
   show _=if 0≤found then (found,0) else LK (IH p M i (l.length + 1))
   simp only [IH]
   by_cases hf : 0≤found
   ·have e1 : (if found < 0∧p.fr≤i∧JD p M i=true then (i : Int) else found)=found:=if_neg (fun y=>by have:=y.1;omega)
    rw [e1,if_pos hf,if_pos hf]
   ·by_cases hc : p.fr≤i∧JD p M i=true
    ·have e1 : (if found < 0∧p.fr≤i∧JD p M i=true then (i : Int) else found)=i:=if_pos ⟨by omega,hc⟩
     rw [e1,if_pos (by omega),if_neg hf,if_pos hc];rfl
    ·have e1 : (if found < 0∧p.fr≤i∧JD p M i=true then (i : Int) else found)=found:=if_neg (fun y=>hc y.2)
     rw [e1,if_neg hf,if_neg hf,if_neg hc]
theorem K9 {p : Pst} : ∀ {l : List Pik} {i : Nat} {w : Wrd} {acc M : List Mom} {e found : Int},e≠0→Il l w acc=(M,e)→JX p l i w found=(0,e)
 | [],i,w,acc,M,e,found,he,h=>absurd (Prod.mk.inj h).2.symm he
 | x :: l,i,w,acc,M,e,found,he,h=>by
  obtain ⟨v,hv⟩ : ∃ v,Hc w x=v:=⟨_,rfl⟩
  have h : (if Hj (Hc w x)≠0 then ([],Hj (Hc w x)) else Il l (Hc w x) (acc ++ [Hl (Hc w x)]))=(M,e):=h
  show (if Hj (Hc w x)≠0 then (0,Hj (Hc w x)) else JX p l (i + 1) (Hc w x) (if found < 0∧p.fr≤i∧HR p (findF (Hl w).1 p.c.k) (findF (Hl (Hc w x)).1 p.c.k) w.m.now (Hc w x).m.now=true then (i : Int) else found))=_
  rw [hv] at h ⊢
  split at h
  ·rename_i h0
   rw [if_pos h0,(Prod.mk.inj h).2]
  ·rename_i h0
   rw [if_neg h0]
   exact K9 he h
theorem Nf {w : Wrd} {l : List Pik} {p : Pst} (h0 : 0≤p.fr) (h1 : p.fr≤p.to) (h2 : p.to < l.length) : MG w l p=MF w l p:=by
 unfold MG MF
 obtain ⟨n,hn⟩ : ∃ n : Nat,p.to + 1=n:=⟨(p.to + 1).toNat,by omega⟩
 obtain ⟨fr,hfr⟩ : ∃ fr : Nat,p.fr=fr:=⟨p.fr.toNat,by omega⟩
 obtain ⟨L,hL⟩ : ∃ L,l.take n=L:=⟨_,rfl⟩
 have hLn : L.length=n:=by rw [← hL,List.length_take];omega
 rw [hn,hfr,Int.toNat_natCast,Int.toNat_natCast,hL,show ((n : Int) - fr).toNat=n - fr by omega]
 by_cases he : Hj w=0
 ·have hm : Hu w L=Il L w [Hl w]:=by unfold Hu;rw [if_neg (fun y=>y he)]
  rw [hm,if_neg (show ¬ Hj w≠0 from fun y=>y he)]
  by_cases hc : (Il L w [Hl w]).2=0
  ·rw [if_neg (fun y=>y hc),LR (acc:=[Hl w]) (i:=0) (M:=(Il L w [Hl w]).1) rfl rfl (Prod.ext rfl hc),if_neg (by omega),hLn]
   congr 1
   rw [show n=fr + (n - fr) by omega,JT hfr (n - fr) fr 0 (by omega),show fr + (n - fr) - fr=n - fr by omega]
   exact (Ko (n - fr) fr (by omega)).symm
  ·rw [if_pos hc,K9 hc rfl]
 ·have hm : Hu w L=([],Hj w):=by unfold Hu;rw [if_pos he]
  rw [hm,if_pos he,if_pos he]
def s38 : Sig:=⟨[.agg [.fz kS,.fz kI,.fz kI,.fz kI,.int .i64,.fz kT],.one (.fz kQ),.agg [.int .i64,.int .i64,.int .i64,.int .i64,.int .i64,.int .i64,.int .i64,.int .i64,.int .i64,.int .i64,.int .i64,.int .i64,.fz kK]],[.one (.bool)]⟩
def d38 : DC:=⟨s38,fun _=>True,fun _=>[.b true]⟩
def l38 : List (Nat × Ct):=[(81,d81.ct),(141,d141.ct),(79,d79.ct),(159,d159.ct)]
def z38 : Cx:={ T:=ttA,C:=sigs l38,F:=[],hints:=[],sig:=s38}
def t38 : Tree :=
 (.call 81 [.var 0,.var 1,.var 2,.var 3,.var 4,.var 5,.var 6,.var 7,.var 8,.var 9,.var 10,.var 11,.var 12,.var 13,.var 14,.var 15,.var 16,.var 17,.var 18,.var 19] 20
 (.call 141 [.var 0,.var 1,.var 2,.var 3,.var 4,.var 5] 22
 (.ite (.eq (.var 22) (.int 0))
 (.ite (.lt (.int 300) (.len (.var 6)))
 (.call 79 [] 23
 (.ite (.not (.var 23))
 (.call 79 [] 24
 (.ite (.var 24)
 (.ite (.eq (.var 21) (.int 2))
 (.ret [.eq (.var 20) (.int 0)])
 (.ret [.bool false]))
 (.ret [.bool false])))
 (.call 79 [] 24
 (.ite (.var 24)
 (.ite (.eq (.var 21) (.int 2))
 (.ret [.eq (.var 20) (.int 0)])
 (.ret [.bool false]))
 (.ret [.bool false])))))
 (.ite (.lt (.var 14) (.int 0))
 (.call 79 [] 23
 (.ite (.not (.var 23))
 (.call 79 [] 24
 (.ite (.var 24)
 (.ite (.eq (.var 21) (.int 3))
 (.ret [.eq (.var 20) (.int 0)])
 (.ret [.bool false]))
 (.ret [.bool false])))
 (.call 79 [] 24
 (.ite (.var 24)
 (.ite (.eq (.var 21) (.int 3))
 (.ret [.eq (.var 20) (.int 0)])
 (.ret [.bool false]))
 (.ret [.bool false])))))
 (.ite (.lt (.var 15) (.var 14))
 (.call 79 [] 23
 (.ite (.not (.var 23))
 (.call 79 [] 24
 (.ite (.var 24)
 (.ite (.eq (.var 21) (.int 3))
 (.ret [.eq (.var 20) (.int 0)])
 (.ret [.bool false]))
 (.ret [.bool false])))
 (.call 79 [] 24
 (.ite (.var 24)
 (.ite (.eq (.var 21) (.int 3))
 (.ret [.eq (.var 20) (.int 0)])
 (.ret [.bool false]))
 (.ret [.bool false])))))
 (.ite (.le (.len (.var 6)) (.var 15))
 (.call 79 [] 23
 (.ite (.not (.var 23))
 (.call 79 [] 24
 (.ite (.var 24)
 (.ite (.eq (.var 21) (.int 3))
 (.ret [.eq (.var 20) (.int 0)])
 (.ret [.bool false]))
 (.ret [.bool false])))
 (.call 79 [] 24
 (.ite (.var 24)
 (.ite (.eq (.var 21) (.int 3))
 (.ret [.eq (.var 20) (.int 0)])
 (.ret [.bool false]))
 (.ret [.bool false])))))
 (.call 79 [] 23
 (.ite (.not (.var 23))
 (.call 79 [] 24
 (.ite (.var 24)
 (.ite (.eq (.var 21) (.var 22))
 (.ret [.eq (.var 20) (.int 0)])
 (.ret [.bool false]))
 (.ret [.bool false])))
 (.call 159 [.var 0,.var 1,.var 2,.var 3,.var 4,.var 5,.var 6,.var 7,.var 8,.var 9,.var 10,.var 11,.var 12,.var 13,.var 14,.var 15,.var 16,.var 17,.var 18,.var 19] 24
 (.ite (.eq (.var 21) (.var 25))
 (.ret [.eq (.var 20) (.var 24)])
 (.ret [.bool false])))))))))
 (.call 79 [] 23
 (.ite (.not (.var 23))
 (.call 79 [] 24
 (.ite (.var 24)
 (.ite (.eq (.var 21) (.var 22))
 (.ret [.eq (.var 20) (.int 0)])
 (.ret [.bool false]))
 (.ret [.bool false])))
 (.call 79 [] 24
 (.ite (.var 24)
 (.ite (.eq (.var 21) (.var 22))
 (.ret [.eq (.var 20) (.int 0)])
 (.ret [.bool false]))
 (.ret [.bool false]))))))))
theorem run38 : run z38 6000 [.code (Try.f38.body.getD .skip),.fin (bt z38 Try.f38.results.toList 50)] { fn:=38,tmps:=z38.sig.aM ++ List.replicate (Try.f38.ntmps - z38.sig.aM.length) (.v (.one .undef)),stk:=[],h:=z38.sig.h0,nx:=z38.sig.ins.length,known:=[]}=t38:=by kernel_rfl
theorem ok38 : cB Try.prog 38 d38.ct:=by
 refine aD (d:=d38) (Z:=z38) (Γ:=gam l38) (fn:=Try.f38) (c:=Try.f38.body.getD .skip) (bg tok mixed (all_cons ok81 (all_cons ok141 (all_cons ok79 (all_cons ok159 all_nil)))) bh) Try.func38 (by kernel_rfl) (by kernel_rfl) rfl run38 fun E hk hp=>?_
 obtain ⟨hk0,hk1,hk2,hk3,hk4,hk5,hk6,hk7,hk8,hk9,hk10,hk11,hk12,hk13,hk14,hk15,hk16,hk17,hk18,hk19,_⟩:=hk
 obtain ⟨m,e0,e1,e2,e3,e4,b0,b1,b2,b3⟩:=cv (d0:=E 0) (d1:=E 1) (d2:=E 2) (d3:=E 3) (d4:=E 4) hk0 hk1 hk2 hk3 hk4
 obtain ⟨ts,e5,hts,b5⟩:=hU (d:=E 5) hk5
 have b5 : ts.length * 160≤140737488355328:=b5
 obtain ⟨l,e6,b6⟩:=Dc (d:=E 6) hk6
 have b6 : l.length * 64≤140737488355328:=b6
 obtain ⟨p,e7,e8,e9,e10,e11,e12,e13,e14,e15,e16,e17,e18,e19,b19⟩:=Jr (d0:=E 7) (d1:=E 8) (d2:=E 9) (d3:=E 10) (d4:=E 11) (d5:=E 12) (d6:=E 13) (d7:=E 14) (d8:=E 15) (d9:=E 16) (d10:=E 17) (d11:=E 18) (d12:=E 19) hk7 hk8 hk9 hk10 hk11 hk12 hk13 hk14 hk15 hk16 hk17 hk18 hk19
 have el : aH E d38.sig.ins.length=[au m.slots,af m.heads,af m.free,af m.locks,.i m.now,G2 ts,eD l,.i p.task,.i p.c.kind,.i p.c.k.a,.i p.c.k.b,.i p.c.time,.i p.c.bucket,.i p.c.slot,.i p.fr,.i p.to,.i p.e,.i p.slot,.i p.n,bS p.keys]:=by
  show [E 0,E 1,E 2,E 3,E 4,E 5,E 6,E 7,E 8,E 9,E 10,E 11,E 12,E 13,E 14,E 15,E 16,E 17,E 18,E 19]=_
  rw [e0,e1,e2,e3,e4,e5,e6,e7,e8,e9,e10,e11,e12,e13,e14,e15,e16,e17,e18,e19]
 rw [el] at hp
 rw [el]
 rw [Env.bJ el]
 clear el e0 e1 e2 e3 e4 e5 e6 e7 e8 e9 e10 e11 e12 e13 e14 e15 e16 e17 e18 e19
 have hown : ∀ t∈ts,t.own=false:=fun t ht=>(hts t ht).1
 obtain ⟨W,hW⟩ : ∃ W : Wrd,(⟨m,ts⟩ : Wrd)=W:=⟨_,rfl⟩
 obtain ⟨e,he⟩ : ∃ e,bL W=e:=⟨_,rfl⟩
 obtain ⟨V,hv⟩ : ∃ V,Jh W l p=V:=⟨_,rfl⟩
 unfold t38
 refine ai d81 [.i V.1,.i V.2] rfl trivial (by simp only [nrm,xdn,reduceIte,Nat.reduceLT,Nat.reduceSub,Nat.reduceAdd,d81,kr _ _ _ _ _ hown,aA,oZ,List.drop_succ_cons,List.drop_zero,HT,hW,hv]) ?_
 refine ai d141 [.i e] rfl trivial (by simp only [nrm,xdn,reduceIte,Nat.reduceLT,Nat.reduceSub,Nat.reduceAdd,d141,kr _ _ _ _ _ hown,aA,hW,he]) ?_
 unfold Jh at hv
 rw [he] at hv
 refine G0 (fun h0=>?_) (fun h0=>?_)
 rotate_left
 ·simp only [nrm,xdn,reduceIte,Nat.reduceLT,Nat.reduceSub,Nat.reduceAdd] at h0
  have h0 : e≠0:=by simpa using h0
  rw [if_pos h0] at hv
  have hV:=hv.symm
  subst hV
  refine ai d79 [.b true] rfl trivial rfl (G0 (fun hn=>?_) (fun _=>ai d79 [.b true] rfl trivial rfl (G0 (fun _=>G0 (fun _=>aj (by simp only [nrm,xdn,reduceIte,Nat.reduceLT,Nat.reduceSub,Nat.reduceAdd];rfl)) (fun hn=>?_)) (fun hn=>?_))))
  ·skip
   simp only [nrm,xdn,reduceIte,Nat.reduceLT,Nat.reduceSub,Nat.reduceAdd] at hn
   simp at hn
  ·skip
   simp only [nrm,xdn,reduceIte,Nat.reduceLT,Nat.reduceSub,Nat.reduceAdd] at hn
   simp at hn
  ·skip
   simp only [nrm,xdn,reduceIte,Nat.reduceLT,Nat.reduceSub,Nat.reduceAdd] at hn
   simp at hn
 simp only [nrm,xdn,reduceIte,Nat.reduceLT,Nat.reduceSub,Nat.reduceAdd] at h0
 have h0 : e=0:=by simpa using h0
 rw [if_neg (fun y=>y h0)] at hv
 refine G0 (fun h1=>?_) (fun h1=>?_)
 ·simp only [nrm,xdn,reduceIte,Nat.reduceLT,Nat.reduceSub,Nat.reduceAdd,nc] at h1
  rw [if_pos (by omega)] at hv
  have hV:=hv.symm
  subst hV
  refine ai d79 [.b true] rfl trivial rfl (G0 (fun hn=>?_) (fun _=>ai d79 [.b true] rfl trivial rfl (G0 (fun _=>G0 (fun _=>aj (by simp only [nrm,xdn,reduceIte,Nat.reduceLT,Nat.reduceSub,Nat.reduceAdd];rfl)) (fun hn=>?_)) (fun hn=>?_))))
  ·skip
   simp only [nrm,xdn,reduceIte,Nat.reduceLT,Nat.reduceSub,Nat.reduceAdd] at hn
   simp at hn
  ·skip
   simp only [nrm,xdn,reduceIte,Nat.reduceLT,Nat.reduceSub,Nat.reduceAdd] at hn
   simp at hn
  ·skip
   simp only [nrm,xdn,reduceIte,Nat.reduceLT,Nat.reduceSub,Nat.reduceAdd] at hn
   simp at hn
 simp only [nrm,xdn,reduceIte,Nat.reduceLT,Nat.reduceSub,Nat.reduceAdd,nc] at h1
 rw [if_neg (by omega)] at hv
 refine G0 (fun h2=>?_) (fun h2=>G0 (fun h3=>?_) (fun h3=>G0 (fun h4=>?_) (fun h4=>?_)))
 ·simp only [nrm,xdn,reduceIte,Nat.reduceLT,Nat.reduceSub,Nat.reduceAdd] at h2
  rw [if_pos (by omega)] at hv
  have hV:=hv.symm
  subst hV
  refine ai d79 [.b true] rfl trivial rfl (G0 (fun hn=>?_) (fun _=>ai d79 [.b true] rfl trivial rfl (G0 (fun _=>G0 (fun _=>aj (by simp only [nrm,xdn,reduceIte,Nat.reduceLT,Nat.reduceSub,Nat.reduceAdd];rfl)) (fun hn=>?_)) (fun hn=>?_))))
  ·skip
   simp only [nrm,xdn,reduceIte,Nat.reduceLT,Nat.reduceSub,Nat.reduceAdd] at hn
   simp at hn
  ·skip
   simp only [nrm,xdn,reduceIte,Nat.reduceLT,Nat.reduceSub,Nat.reduceAdd] at hn
   simp at hn
  ·skip
   simp only [nrm,xdn,reduceIte,Nat.reduceLT,Nat.reduceSub,Nat.reduceAdd] at hn
   simp at hn
 ·simp only [nrm,xdn,reduceIte,Nat.reduceLT,Nat.reduceSub,Nat.reduceAdd] at h3
  rw [if_pos (by omega)] at hv
  have hV:=hv.symm
  subst hV
  refine ai d79 [.b true] rfl trivial rfl (G0 (fun hn=>?_) (fun _=>ai d79 [.b true] rfl trivial rfl (G0 (fun _=>G0 (fun _=>aj (by simp only [nrm,xdn,reduceIte,Nat.reduceLT,Nat.reduceSub,Nat.reduceAdd];rfl)) (fun hn=>?_)) (fun hn=>?_))))
  ·skip
   simp only [nrm,xdn,reduceIte,Nat.reduceLT,Nat.reduceSub,Nat.reduceAdd] at hn
   simp at hn
  ·skip
   simp only [nrm,xdn,reduceIte,Nat.reduceLT,Nat.reduceSub,Nat.reduceAdd] at hn
   simp at hn
  ·skip
   simp only [nrm,xdn,reduceIte,Nat.reduceLT,Nat.reduceSub,Nat.reduceAdd] at hn
   simp at hn
 ·simp only [nrm,xdn,reduceIte,Nat.reduceLT,Nat.reduceSub,Nat.reduceAdd,nc] at h4
  rw [if_pos (by omega)] at hv
  have hV:=hv.symm
  subst hV
  refine ai d79 [.b true] rfl trivial rfl (G0 (fun hn=>?_) (fun _=>ai d79 [.b true] rfl trivial rfl (G0 (fun _=>G0 (fun _=>aj (by simp only [nrm,xdn,reduceIte,Nat.reduceLT,Nat.reduceSub,Nat.reduceAdd];rfl)) (fun hn=>?_)) (fun hn=>?_))))
  ·skip
   simp only [nrm,xdn,reduceIte,Nat.reduceLT,Nat.reduceSub,Nat.reduceAdd] at hn
   simp at hn
  ·skip
   simp only [nrm,xdn,reduceIte,Nat.reduceLT,Nat.reduceSub,Nat.reduceAdd] at hn
   simp at hn
  ·skip
   simp only [nrm,xdn,reduceIte,Nat.reduceLT,Nat.reduceSub,Nat.reduceAdd] at hn
   simp at hn
 simp only [nrm,xdn,reduceIte,Nat.reduceLT,Nat.reduceSub,Nat.reduceAdd,nc] at h2 h3 h4
 rw [if_neg (by omega),Nf (by omega) (by omega) (by omega)] at hv
 refine ai d79 [.b true] rfl trivial rfl (G0 (fun hn=>?_) (fun _=>?_))
 ·skip
  simp only [nrm,xdn,reduceIte,Nat.reduceLT,Nat.reduceSub,Nat.reduceAdd] at hn
  simp at hn
 refine ai d159 [.i V.1,.i V.2] rfl ?_ ?_ (G0 (fun _=>aj (by simp only [nrm,xdn,reduceIte,Nat.reduceLT,Nat.reduceSub,Nat.reduceAdd,BEq.rfl];rfl)) (fun hn=>?_))
 ·simp only [nrm,xdn,reduceIte,Nat.reduceLT,Nat.reduceSub,Nat.reduceAdd,d159,kr _ _ _ _ _ hown,aA,oZ,List.drop_succ_cons,List.drop_zero,HT,hW]
  exact ⟨he.trans h0,by omega,by omega,by omega⟩
 ·simp only [nrm,xdn,reduceIte,Nat.reduceLT,Nat.reduceSub,Nat.reduceAdd,d159,kr _ _ _ _ _ hown,aA,oZ,List.drop_succ_cons,List.drop_zero,HT,hW,hv]
 ·skip
  simp only [nrm,xdn,reduceIte,Nat.reduceLT,Nat.reduceSub,Nat.reduceAdd] at hn
  simp at hn
end Go.Proofs.Ytpmamacjepcdmaa
