import Derived.Test.YtpmamacjepcdmaaCSwept
import Derived.Test.YtpmamacjepcdmaaCAloneSweep
namespace Go.Proofs.Ytpmamacjepcdmaa
open Go Go.Sy Go.RowKit
set_option linter.unusedSimpArgs false
set_option linter.unusedVariables false
theorem GD (l : List Int) : d39.fn [af l,af l]=[.b true]:=by
 show [CD.b (decide _)]=_
 simp
theorem si75 (l : List cI) : d75.fn [eM l,eM l]=[.b true]:=by
 show [CD.b (decide _)]=_
 simp
theorem Ht {m : Mem} (hC : aK m) : jM m=(aq m,0):=by
 unfold jM
 rw [if_neg (fun hx=>hx ((rN m).2 hC))]
theorem HO {m : Mem} (h : (jM m).2=0) : aK m∧jM m=(aq m,0):=by
 have hC : aK m:=by
  unfold jM at h
  split at h
  ·rename_i hc;exact absurd h hc
  ·rename_i hc;exact (rN m).1 (Classical.not_not.1 hc)
 exact ⟨hC,Ht hC⟩
theorem GQ {m : Mem} (hC : aK m) {b : Int} (h1 : 0≤b) (h2 : b < m.heads.length) : slotsOf m b=(chL m b.toNat,0):=by
 have hc:=(hC.ch (b:=b.toNat) (by omega)).of
 rw [show ((b.toNat : Nat) : Int)=b from by omega] at hc
 unfold slotsOf
 rw [if_neg (fun h=>h ((dT m).2 hC.mem)),if_neg (by omega)]
 unfold bP
 rw [hc]
theorem GL {m : Mem} (hC : aK m) {b : Int} (h : (slotsOf m b).2=0) : ∃ n : Nat,b=n∧n < m.heads.length∧slotsOf m b=(chL m n,0):=by
 have hb : 0≤b∧b < m.heads.length:=by
  unfold slotsOf at h
  split at h
  ·rename_i hc;exact absurd h hc
  ·split at h
   ·cases h
   ·omega
 exact ⟨b.toNat,by omega,by omega,GQ hC hb.1 hb.2⟩
theorem GI {m : Mem} {f : Frm} (hm : aZ m) (hf : bV m f) (hk : f.c.kind=4∨f.c.kind=5) (hd : ((fun m f=>aB m f 0) m f).1.done=false) : aZ ((fun m f=>aB m f 0) m f).2∧bV ((fun m f=>aB m f 0) m f).2 ((fun m f=>aB m f 0) m f).1∧(((fun m f=>aB m f 0) m f).1.c.kind=4∨((fun m f=>aB m f 0) m f).1.c.kind=5) :=
 ⟨sB 0 hm hf,(oT 0 hm hf hk).ok hf (fF 0 hm hf hk) hd,by rw [(oT 0 hm hf hk).c];exact hk⟩
theorem frm0 {m : Mem} {b : Nat} (hb : b < m.heads.length) {kd : Int} (hk : kd=4∨kd=5) : bV m (aX ⟨kd,⟨0,0⟩,0,b,0⟩):=(mD _ _).1 (by
 have hc : bf m ⟨kd,⟨0,0⟩,0,b,0⟩=0:=by
  unfold bf
  rw [if_neg (by simp only;omega),if_neg (by simp only;omega),if_pos hk,if_neg (by simp only;omega)]
 unfold eO aX
 rw [if_neg (fun z=>z hc),if_neg (by simp only;omega),if_neg (by simp),if_neg (by simp only;omega),if_neg (by simp)])
theorem Ge {P : cI→Bool} {l : List cI} {j : Nat} (hj : j < l.length) : (l.take (j + 1)).filter P=(l.take j).filter P ++ (if P (l.getD j default)=true then [l.getD j default] else []):=by
 have e : l.getD j default=l[j]:=by rw [List.getD_eq_getElem?_getD,List.getElem?_eq_getElem hj];rfl
 rw [List.take_succ_eq_append_getElem hj,List.filter_append,e]
 congr 1
 split
 ·rename_i h;exact List.filter_cons_of_pos h
 ·rename_i h;exact List.filter_cons_of_neg h
theorem Gx {A : List cI} {i : Nat} (hi : i < A.length) (v : cI) : (A.set i v).take (i + 1)=A.take i ++ [v]:=by
 rw [List.take_succ_eq_append_getElem (by simpa using hi),List.getElem_set_self,List.take_set_of_le (Nat.le_refl _)]
theorem H6 {A l : List cI} {j : Nat} (h : A.drop j=l.drop j) : A.getD j default=l.getD j default:=by
 have:=congrArg (fun x : List cI=>x[0]?) h
 simp only [List.getElem?_drop,Nat.add_zero] at this
 rw [List.getD_eq_getElem?_getD,List.getD_eq_getElem?_getD,this]
structure Gh (P : cI→Bool) (l A : List cI) (i j : Nat) : Prop where
 len : A.length=l.length
 ij : i≤j
 jl : j≤l.length
 tk : A.take i=(l.take j).filter P
 dr : A.drop j=l.drop j
theorem Gh.fa {P : cI→Bool} {l A : List cI} {i j : Nat} (S : Gh P l A i j) (hj : j < l.length) (hp : P (l.getD j default)=true) : Gh P l (A.set i (A.getD j default)) (i + 1) (j + 1):=by
 obtain ⟨h1,h2,h3,h4,h5⟩:=S
 refine ⟨by simp [h1],by omega,by omega,?_,?_⟩
 ·rw [Gx (by omega),Ge hj,if_pos hp,h4,H6 h5]
 ·rw [List.drop_set_of_lt (by omega),← List.drop_drop,← List.drop_drop,h5]
theorem Gh.Gl {P : cI→Bool} {l A : List cI} {i j : Nat} (S : Gh P l A i j) (hj : j < l.length) (hp : P (l.getD j default)=false) : Gh P l A i (j + 1):=by
 obtain ⟨h1,h2,h3,h4,h5⟩:=S
 refine ⟨h1,by omega,by omega,?_,?_⟩
 ·rw [Ge hj,if_neg (by rw [hp];exact Bool.false_ne_true),List.append_nil,h4]
 ·rw [← List.drop_drop,← List.drop_drop,h5]
theorem Gq {l : List cI} {i j : Nat} (hi : i < l.length) (hj : j < l.length) {a0 a1 a2 a3 : CD} (h0 : a0=(((eM l).rows.getD j []).getD 0 .u)) (h1 : a1=(((eM l).rows.getD j []).getD 1 .u)) (h2 : a2=(((eM l).rows.getD j []).getD 2 .u)) (h3 : a3=(((eM l).rows.getD j []).getD 3 .u)) :
  CD.l (((((eM l).rows.modify i fun r=>r.set 0 a0).modify i fun r=>r.set 1 a1).modify i fun r=>r.set 2 a2).modify i fun r=>r.set 3 a3)=eM (l.set i (l.getD j default)):=by
 have e : (eM l).rows=l.map cI.row:=rfl
 have er : (l.map cI.row).getD j []=cI.row (l.getD j default):=by
  rw [List.getD_eq_getElem?_getD,List.getElem?_map,List.getD_eq_getElem?_getD,List.getElem?_eq_getElem hj];rfl
 rw [e,er] at h0 h1 h2 h3
 subst h0;subst h1;subst h2;subst h3
 rw [e]
 unfold eM
 congr 1
 refine List.ext_getElem? fun t=>?_
 simp only [List.getElem?_modify,List.getElem?_map,List.getElem?_set]
 by_cases e : i=t
 ·subst e
  simp only [if_true,hi,List.getElem?_eq_getElem hi]
  rfl
 ·simp only [if_neg e]
  cases l[t]? <;> rfl
def s27 : Sig:=⟨[.agg [.fz kS,.fz kI,.fz kI,.fz kI,.int .i64],.one (.int .i64)],[.one (.bool)]⟩
def d27 : DC:=⟨s27,fun _=>True,fun _=>[.b true]⟩
def l27 : List (Nat × Ct):=[(71,d71.ct),(70,d70.ct),(109,d109.ct),(62,d62.ct),(41,d41.ct),(110,d110.ct),(59,d59.ct),(98,d98.ct),(75,d75.ct)]
noncomputable def z27 : Cx:={ T:=ttA,C:=sigs l27,F:=[(113,Try.f113),(116,Try.f116),(127,Try.f127),(128,Try.f128),(129,Try.f129),(130,Try.f130),(131,Try.f131),(85,Try.f85),(195,Try.f195)],hints:=[⟨27,14,false,[(114,.lt)],[],[],[],0,0,false⟩,⟨113,3,false,[(12,.lt)],[(6,0,.own 52 kS),(6,1,.own 3 kI),(6,2,.own 3 kI),(6,3,.own 3 kI),(6,4,.lt),(6,0,.lt),(6,1,.lt),(6,2,.lt),(6,3,.lt),(6,4,.lt),(6,5,.lt),(6,6,.lt),(6,7,.lt),(6,8,.lt),(6,9,.lt),(6,10,.lt),(6,11,.fz kK),(6,12,.lt),(6,13,.lt)],[],[],7,0,false⟩,⟨113,3,false,[(12,.lt)],[(6,0,.own 52 kS),(6,1,.own 3 kI),(6,2,.own 3 kI),(6,3,.own 3 kI),(6,4,.lt),(7,0,.lt),(7,1,.lt),(7,2,.lt),(7,3,.lt),(7,4,.lt),(7,5,.lt),(7,6,.lt),(7,7,.lt),(7,8,.lt),(7,9,.lt),(7,10,.lt),(7,11,.fz kK),(7,12,.lt),(7,13,.lt)],[],[],8,0,false⟩,⟨113,3,false,[(12,.lt)],[(6,0,.own 52 kS),(6,1,.own 3 kI),(6,2,.own 3 kI),(6,3,.own 3 kI),(6,4,.lt),(8,0,.lt),(8,1,.lt),(8,2,.lt),(8,3,.lt),(8,4,.lt),(8,5,.lt),(8,6,.lt),(8,7,.lt),(8,8,.lt),(8,9,.lt),(8,10,.lt),(8,11,.fz kK),(8,12,.lt),(8,13,.lt)],[],[],9,0,false⟩,⟨113,3,false,[(12,.lt)],[(6,0,.own 52 kS),(6,1,.own 3 kI),(6,2,.own 3 kI),(6,3,.own 3 kI),(6,4,.lt),(9,0,.lt),(9,1,.lt),(9,2,.lt),(9,3,.lt),(9,4,.lt),(9,5,.lt),(9,6,.lt),(9,7,.lt),(9,8,.lt),(9,9,.lt),(9,10,.lt),(9,11,.fz kK),(9,12,.lt),(9,13,.lt)],[],[],10,0,false⟩,⟨113,3,false,[(12,.lt)],[(6,0,.own 52 kS),(6,1,.own 3 kI),(6,2,.own 3 kI),(6,3,.own 3 kI),(6,4,.lt),(10,0,.lt),(10,1,.lt),(10,2,.lt),(10,3,.lt),(10,4,.lt),(10,5,.lt),(10,6,.lt),(10,7,.lt),(10,8,.lt),(10,9,.lt),(10,10,.lt),(10,11,.fz kK),(10,12,.lt),(10,13,.lt)],[],[],11,0,false⟩,⟨113,3,false,[(12,.lt)],[(6,0,.own 52 kS),(6,1,.own 3 kI),(6,2,.own 3 kI),(6,3,.own 3 kI),(6,4,.lt),(11,0,.lt),(11,1,.lt),(11,2,.lt),(11,3,.lt),(11,4,.lt),(11,5,.lt),(11,6,.lt),(11,7,.lt),(11,8,.lt),(11,9,.lt),(11,10,.lt),(11,11,.fz kK),(11,12,.lt),(11,13,.lt)],[],[],12,0,false⟩,⟨113,3,false,[(12,.lt)],[(6,0,.own 52 kS),(6,1,.own 3 kI),(6,2,.own 3 kI),(6,3,.own 3 kI),(6,4,.lt),(12,0,.lt),(12,1,.lt),(12,2,.lt),(12,3,.lt),(12,4,.lt),(12,5,.lt),(12,6,.lt),(12,7,.lt),(12,8,.lt),(12,9,.lt),(12,10,.lt),(12,11,.fz kK),(12,12,.lt),(12,13,.lt)],[],[],13,0,false⟩,⟨113,3,false,[(12,.lt)],[(6,0,.own 52 kS),(6,1,.own 3 kI),(6,2,.own 3 kI),(6,3,.own 3 kI),(6,4,.lt),(13,0,.lt),(13,1,.lt),(13,2,.lt),(13,3,.lt),(13,4,.lt),(13,5,.lt),(13,6,.lt),(13,7,.lt),(13,8,.lt),(13,9,.lt),(13,10,.lt),(13,11,.fz kK),(13,12,.lt),(13,13,.lt)],[],[],14,0,false⟩,⟨113,3,false,[(12,.lt)],[(6,0,.own 52 kS),(6,1,.own 3 kI),(6,2,.own 3 kI),(6,3,.own 3 kI),(6,4,.lt),(14,0,.lt),(14,1,.lt),(14,2,.lt),(14,3,.lt),(14,4,.lt),(14,5,.lt),(14,6,.lt),(14,7,.lt),(14,8,.lt),(14,9,.lt),(14,10,.lt),(14,11,.fz kK),(14,12,.lt),(14,13,.lt)],[],[],15,0,false⟩,⟨113,3,false,[(12,.lt)],[(6,0,.own 52 kS),(6,1,.own 3 kI),(6,2,.own 3 kI),(6,3,.own 3 kI),(6,4,.lt),(15,0,.lt),(15,1,.lt),(15,2,.lt),(15,3,.lt),(15,4,.lt),(15,5,.lt),(15,6,.lt),(15,7,.lt),(15,8,.lt),(15,9,.lt),(15,10,.lt),(15,11,.fz kK),(15,12,.lt),(15,13,.lt)],[],[],16,0,false⟩,⟨113,3,false,[(12,.lt)],[(7,0,.own 52 kS),(7,1,.own 3 kI),(7,2,.own 3 kI),(7,3,.own 3 kI),(7,4,.lt),(16,0,.lt),(16,1,.lt),(16,2,.lt),(16,3,.lt),(16,4,.lt),(16,5,.lt),(16,6,.lt),(16,7,.lt),(16,8,.lt),(16,9,.lt),(16,10,.lt),(16,11,.fz kK),(16,12,.lt),(16,13,.lt)],[],[],17,0,false⟩,⟨113,3,false,[(12,.lt)],[(7,0,.own 52 kS),(7,1,.own 3 kI),(7,2,.own 3 kI),(7,3,.own 3 kI),(7,4,.lt),(17,0,.lt),(17,1,.lt),(17,2,.lt),(17,3,.lt),(17,4,.lt),(17,5,.lt),(17,6,.lt),(17,7,.lt),(17,8,.lt),(17,9,.lt),(17,10,.lt),(17,11,.fz kK),(17,12,.lt),(17,13,.lt)],[],[],18,0,false⟩,⟨113,3,false,[(12,.lt)],[(7,0,.own 52 kS),(7,1,.own 3 kI),(7,2,.own 3 kI),(7,3,.own 3 kI),(7,4,.lt),(18,0,.lt),(18,1,.lt),(18,2,.lt),(18,3,.lt),(18,4,.lt),(18,5,.lt),(18,6,.lt),(18,7,.lt),(18,8,.lt),(18,9,.lt),(18,10,.lt),(18,11,.fz kK),(18,12,.lt),(18,13,.lt)],[],[],19,0,false⟩,⟨113,3,false,[(12,.lt)],[(7,0,.own 52 kS),(7,1,.own 3 kI),(7,2,.own 3 kI),(7,3,.own 3 kI),(7,4,.lt),(19,0,.lt),(19,1,.lt),(19,2,.lt),(19,3,.lt),(19,4,.lt),(19,5,.lt),(19,6,.lt),(19,7,.lt),(19,8,.lt),(19,9,.lt),(19,10,.lt),(19,11,.fz kK),(19,12,.lt),(19,13,.lt)],[],[],20,0,false⟩,⟨130,5,false,[(5,.lt),(6,.lt),(0,.own 78 kW)],[],[],[],0,0,false⟩,⟨85,2,false,[(8,.lt)],[],[],[],0,0,false⟩,⟨195,2,false,[(8,.lt)],[],[],[],0,0,false⟩],sig:=s27}
def t27 : Tree :=
 (.call 71 [.var 0,.var 1,.var 2,.var 3,.var 4] 6
 (.call 70 [.var 0,.var 1,.var 2,.var 3,.var 4,.var 5] 8
 (.call 109 [] 10
 (.ite (.not (.var 10))
 (.call 109 [] 11
 (.ret [.var 11]))
 (.ite (.not (.eq (.var 7) (.int 0)))
 (.call 109 [] 11
 (.ret [.var 11]))
 (.ite (.not (.eq (.var 9) (.int 0)))
 (.call 109 [] 11
 (.ret [.var 11]))
 (.loop 11 [.int .i64] [.int 0]
 (.ite (.lt (.var 12) (.len (.var 3)))
 (.need (.le (.int 0) (.var 12))
 (.ite (.not (.eq (.cell (.var 3) (.var 12) 0) (.int (-1))))
 (.ret [.bool true])
 (.need (.fit (.add (.var 12) (.int 1)))
 (.back 11 [.add (.var 12) (.int 1)]))))
 (.call 62 [.var 0,.var 1,.var 2,.var 3,.var 4] 13
 (.call 62 [.var 0,.var 1,.var 2,.var 3,.var 4] 18
 (.need (.fit (.mul (.int 3) (.len (.var 0))))
 (.need (.fit (.add (.mul (.int 3) (.len (.var 0))) (.int 5)))
 (.call 41 [.int 4,.int 0,.int 0,.int 0,.var 5,.int 0] 23
 (.loop 37 [.int .i64,.sl 48 [.int .i64,.int .i64,.int .i64,.int .i64,.bool,.int .i64],.sl 8 [.int .i64],.sl 8 [.int .i64],.sl 8 [.int .i64],.int .i64,.int .i64,.int .i64,.int .i64,.int .i64,.int .i64,.int .i64,.int .i64,.int .i64,.int .i64,.int .i64,.int .i64,.sl 16 [.int .i64,.int .i64],.bool,.int .i64] [.int 0,.var 13,.var 14,.var 15,.var 16,.var 17,.var 23,.var 24,.var 25,.var 26,.var 27,.var 28,.var 29,.var 30,.var 31,.var 32,.var 33,.var 34,.var 35,.var 36]
 (.ite (.lt (.var 38) (.add (.mul (.int 3) (.len (.var 0))) (.int 5)))
 (.call 110 [.var 39,.var 40,.var 41,.var 42,.var 43,.var 44,.var 45,.var 46,.var 47,.var 48,.var 49,.var 50,.var 51,.var 52,.var 53,.var 54,.var 55,.var 56,.var 57,.int 0] 58
 (.ite (.var 75)
 (.need (.fit (.mul (.int 2) (.len (.var 0))))
 (.need (.fit (.add (.mul (.int 2) (.len (.var 0))) (.int 5)))
 (.call 41 [.int 5,.int 0,.int 0,.int 0,.var 5,.int 0] 77
 (.loop 91 [.int .i64,.sl 48 [.int .i64,.int .i64,.int .i64,.int .i64,.bool,.int .i64],.sl 8 [.int .i64],.sl 8 [.int .i64],.sl 8 [.int .i64],.int .i64,.int .i64,.int .i64,.int .i64,.int .i64,.int .i64,.int .i64,.int .i64,.int .i64,.int .i64,.int .i64,.int .i64,.sl 16 [.int .i64,.int .i64],.bool,.int .i64] [.int 0,.var 18,.var 19,.var 20,.var 21,.var 22,.var 77,.var 78,.var 79,.var 80,.var 81,.var 82,.var 83,.var 84,.var 85,.var 86,.var 87,.var 88,.var 89,.var 90]
 (.ite (.lt (.var 92) (.add (.mul (.int 2) (.len (.var 0))) (.int 5)))
 (.call 110 [.var 93,.var 94,.var 95,.var 96,.var 97,.var 98,.var 99,.var 100,.var 101,.var 102,.var 103,.var 104,.var 105,.var 106,.var 107,.var 108,.var 109,.var 110,.var 111,.int 0] 112
 (.ite (.var 129)
 (.call 71 [.var 58,.var 59,.var 60,.var 61,.var 62] 131
 (.ite (.not (.eq (.var 132) (.int 0)))
 (.ret [.bool false])
 (.ite (.not (.eq (.var 76) (.int 0)))
 (.ret [.bool false])
 (.ite (.not (.eq (.var 130) (.int 0)))
 (.ret [.bool false])
 (.call 59 [.var 112,.var 113,.var 114,.var 115,.var 116,.var 0,.var 1,.var 2,.var 3,.var 4] 133
 (.ite (.not (.var 133))
 (.ret [.bool false])
 (.ite (.not (.eq (.len (.var 128)) (.len (.var 8))))
 (.ret [.bool false])
 (.loop 134 [.int .i64] [.int 0]
 (.ite (.lt (.var 135) (.len (.var 8)))
 (.need (.le (.int 0) (.var 135))
 (.need (.lt (.var 135) (.len (.var 128)))
 (.need (.le (.int 0) (.cell (.var 8) (.var 135) 0))
 (.need (.lt (.cell (.var 8) (.var 135) 0) (.len (.var 0)))
 (.ite (.not (.and (.eq (.cell (.var 128) (.var 135) 0) (.cell (.var 0) (.cell (.var 8) (.var 135) 0) 1)) (.and (.eq (.cell (.var 128) (.var 135) 1) (.cell (.var 0) (.cell (.var 8) (.var 135) 0) 2)) (.bool true))))
 (.ret [.bool false])
 (.need (.fit (.add (.var 135) (.int 1)))
 (.back 134 [.add (.var 135) (.int 1)])))))))
 (.loop 136 [.int .i64] [.int 0]
 (.ite (.lt (.var 137) (.len (.var 6)))
 (.need (.le (.int 0) (.var 137))
 (.ite (.le (.cell (.var 6) (.var 137) 3) (.var 4))
 (.call 98 [.var 8,.cell (.var 6) (.var 137) 2] 138
 (.ite (.var 138)
 (.ite (.eq (.var 137) (.int (-1)))
 (.call 75 [.var 131,.var 6] 139
 (.ite (.var 139)
 (.need (.fit (.sub (.len (.var 6)) (.len (.var 6))))
 (.ret [.eq (.var 73) (.sub (.len (.var 6)) (.len (.var 6)))]))
 (.ret [.bool false])))
 (.need (.fit (.add (.var 137) (.int 1)))
 (.loop 139 [.sl 32 [.int .i64,.int .i64,.int .i64,.int .i64],.int .i64,.int .i64] [.var 6,.var 137,.add (.var 137) (.int 1)]
 (.ite (.lt (.var 142) (.len (.var 140)))
 (.need (.le (.int 0) (.var 142))
 (.ite (.le (.cell (.var 140) (.var 142) 3) (.var 4))
 (.call 98 [.var 8,.cell (.var 140) (.var 142) 2] 143
 (.ite (.not (.var 143))
 (.need (.le (.int 0) (.var 141))
 (.need (.lt (.var 141) (.len (.var 140)))
 (.need (.fit (.add (.var 141) (.int 1)))
 (.need (.fit (.add (.var 142) (.int 1)))
 (.back 139 [.set (.set (.set (.set (.var 140) (.var 141) 0 (.cell (.var 140) (.var 142) 0)) (.var 141) 1 (.cell (.var 140) (.var 142) 1)) (.var 141) 2 (.cell (.var 140) (.var 142) 2)) (.var 141) 3 (.cell (.var 140) (.var 142) 3),.add (.var 141) (.int 1),.add (.var 142) (.int 1)])))))
 (.need (.fit (.add (.var 142) (.int 1)))
 (.back 139 [.var 140,.var 141,.add (.var 142) (.int 1)]))))
 (.need (.le (.int 0) (.var 141))
 (.need (.lt (.var 141) (.len (.var 140)))
 (.need (.fit (.add (.var 141) (.int 1)))
 (.need (.fit (.add (.var 142) (.int 1)))
 (.back 139 [.set (.set (.set (.set (.var 140) (.var 141) 0 (.cell (.var 140) (.var 142) 0)) (.var 141) 1 (.cell (.var 140) (.var 142) 1)) (.var 141) 2 (.cell (.var 140) (.var 142) 2)) (.var 141) 3 (.cell (.var 140) (.var 142) 3),.add (.var 141) (.int 1),.add (.var 142) (.int 1)])))))))
 (.need (.le (.int 0) (.var 141))
 (.need (.le (.var 141) (.len (.var 140)))
 (.need (.le (.add (.var 141) (.sub (.len (.var 140)) (.var 141))) (.len (.var 140)))
 (.need (.le (.var 141) (.add (.len (.take (.var 141) (.var 140))) (.add (.len (.rep (.sub (.len (.var 140)) (.var 141)) (.cons (.int 0) (.cons (.int 0) (.cons (.int 0) (.cons (.int 0) .row0)))))) (.len (.drop (.add (.var 141) (.sub (.len (.var 140)) (.var 141))) (.var 140))))))
 (.call 75 [.var 131,.take (.var 141) (.app (.take (.var 141) (.var 140)) (.app (.rep (.sub (.len (.var 140)) (.var 141)) (.cons (.int 0) (.cons (.int 0) (.cons (.int 0) (.cons (.int 0) .row0))))) (.drop (.add (.var 141) (.sub (.len (.var 140)) (.var 141))) (.var 140))))] 143
 (.ite (.var 143)
 (.need (.fit (.sub (.len (.var 6)) (.var 141)))
 (.ret [.eq (.var 73) (.sub (.len (.var 6)) (.var 141))]))
 (.ret [.bool false])))))))))))
 (.need (.fit (.add (.var 137) (.int 1)))
 (.back 136 [.add (.var 137) (.int 1)]))))
 (.need (.fit (.add (.var 137) (.int 1)))
 (.back 136 [.add (.var 137) (.int 1)]))))
 (.call 75 [.var 131,.var 6] 138
 (.ite (.var 138)
 (.need (.fit (.sub (.len (.var 6)) (.len (.var 6))))
 (.ret [.eq (.var 73) (.sub (.len (.var 6)) (.len (.var 6)))]))
 (.ret [.bool false]))))))))))))))
 (.need (.fit (.add (.var 92) (.int 1)))
 (.back 91 [.add (.var 92) (.int 1),.var 112,.var 113,.var 114,.var 115,.var 116,.var 117,.var 118,.var 119,.var 120,.var 121,.var 122,.var 123,.var 124,.var 125,.var 126,.var 127,.var 128,.var 129,.var 130]))))
 (.call 71 [.var 58,.var 59,.var 60,.var 61,.var 62] 112
 (.ret [.bool false])))))))
 (.need (.fit (.add (.var 38) (.int 1)))
 (.back 37 [.add (.var 38) (.int 1),.var 58,.var 59,.var 60,.var 61,.var 62,.var 63,.var 64,.var 65,.var 66,.var 67,.var 68,.var 69,.var 70,.var 71,.var 72,.var 73,.var 74,.var 75,.var 76]))))
 (.need (.fit (.mul (.int 2) (.len (.var 0))))
 (.need (.fit (.add (.mul (.int 2) (.len (.var 0))) (.int 5)))
 (.call 41 [.int 5,.int 0,.int 0,.int 0,.var 5,.int 0] 58
 (.loop 72 [.int .i64,.sl 48 [.int .i64,.int .i64,.int .i64,.int .i64,.bool,.int .i64],.sl 8 [.int .i64],.sl 8 [.int .i64],.sl 8 [.int .i64],.int .i64,.int .i64,.int .i64,.int .i64,.int .i64,.int .i64,.int .i64,.int .i64,.int .i64,.int .i64,.int .i64,.int .i64,.sl 16 [.int .i64,.int .i64],.bool,.int .i64] [.int 0,.var 18,.var 19,.var 20,.var 21,.var 22,.var 58,.var 59,.var 60,.var 61,.var 62,.var 63,.var 64,.var 65,.var 66,.var 67,.var 68,.var 69,.var 70,.var 71]
 (.ite (.lt (.var 73) (.add (.mul (.int 2) (.len (.var 0))) (.int 5)))
 (.call 110 [.var 74,.var 75,.var 76,.var 77,.var 78,.var 79,.var 80,.var 81,.var 82,.var 83,.var 84,.var 85,.var 86,.var 87,.var 88,.var 89,.var 90,.var 91,.var 92,.int 0] 93
 (.ite (.var 110)
 (.call 71 [.var 39,.var 40,.var 41,.var 42,.var 43] 112
 (.ret [.bool false]))
 (.need (.fit (.add (.var 73) (.int 1)))
 (.back 72 [.add (.var 73) (.int 1),.var 93,.var 94,.var 95,.var 96,.var 97,.var 98,.var 99,.var 100,.var 101,.var 102,.var 103,.var 104,.var 105,.var 106,.var 107,.var 108,.var 109,.var 110,.var 111]))))
 (.call 71 [.var 39,.var 40,.var 41,.var 42,.var 43] 93
 (.ret [.bool false]))))))))))))))))))))))
theorem run27 : run z27 6000 [.code (Try.f27.body.getD .skip),.fin (bt z27 Try.f27.results.toList 50)] { fn:=27,tmps:=z27.sig.aM ++ List.replicate (Try.f27.ntmps - z27.sig.aM.length) (.v (.one .undef)),stk:=[],h:=z27.sig.h0,nx:=z27.sig.ins.length,known:=[]}=t27:=by kernel_rfl
theorem ok27 : cB Try.prog 27 d27.ct:=by
 refine aD (d:=d27) (Z:=z27) (Γ:=gam l27) (fn:=Try.f27) (c:=Try.f27.body.getD .skip) (bg tok mixed (all_cons ok71 (all_cons ok70 (all_cons ok109 (all_cons ok62 (all_cons ok41 (all_cons ok110 (all_cons ok59 (all_cons ok98 (all_cons ok75 all_nil))))))))) (dX (c:=Try.f113.body.getD .skip) Try.func113 (by kernel_rfl) (by kernel_rfl) (dX (c:=Try.f116.body.getD .skip) Try.func116 (by kernel_rfl) (by kernel_rfl) (dX (c:=Try.f127.body.getD .skip) Try.func127 (by kernel_rfl) (by kernel_rfl) (dX (c:=Try.f128.body.getD .skip) Try.func128 (by kernel_rfl) (by kernel_rfl) (dX (c:=Try.f129.body.getD .skip) Try.func129 (by kernel_rfl) (by kernel_rfl) (dX (c:=Try.f130.body.getD .skip) Try.func130 (by kernel_rfl) (by kernel_rfl) (dX (c:=Try.f131.body.getD .skip) Try.func131 (by kernel_rfl) (by kernel_rfl) (dX (c:=Try.f85.body.getD .skip) Try.func85 (by kernel_rfl) (by kernel_rfl) (dX (c:=Try.f195.body.getD .skip) Try.func195 (by kernel_rfl) (by kernel_rfl) bh)))))))))) Try.func27 (by kernel_rfl) (by kernel_rfl) rfl run27 fun E hk hp=>?_
 obtain ⟨hk0,hk1,hk2,hk3,hk4,hk5,_⟩:=hk
 obtain ⟨m,e0,e1,e2,e3,e4,b0,b1,b2,b3⟩:=cv (d0:=E 0) (d1:=E 1) (d2:=E 2) (d3:=E 3) (d4:=E 4) hk0 hk1 hk2 hk3 hk4
 obtain ⟨x,e5⟩:=ok_int (d:=E 5) hk5
 have el : aH E d27.sig.ins.length=[au m.slots,af m.heads,af m.free,af m.locks,.i m.now,.i x]:=by
  show [E 0,E 1,E 2,E 3,E 4,E 5]=_
  rw [e0,e1,e2,e3,e4,e5]
 rw [el] at hp
 rw [el]
 rw [Env.bJ el]
 clear el e0 e1 e2 e3 e4 e5
 simp only [d27]
 unfold t27
 refine ai d71 [eM (jM m).1,.i (jM m).2] rfl trivial (by simp only [nrm,xdn,reduceIte,Nat.reduceLT,Nat.reduceSub,Nat.reduceAdd,fn71]) ?_
 refine ai d70 [af (slotsOf m x).1,.i (slotsOf m x).2] rfl trivial (by simp only [nrm,xdn,reduceIte,Nat.reduceLT,Nat.reduceSub,Nat.reduceAdd,fn70]) ?_
 refine ai d109 [.b true] rfl trivial rfl (Fk rfl (G0 (fun h=>?_) (fun h=>G0 (fun h2=>?_) (fun h2=>?_))))
 ·
  refine ai d109 [.b true] rfl trivial rfl (aj ?_)
  simp only [nrm,xdn,reduceIte,Nat.reduceLT,Nat.reduceSub,Nat.reduceAdd]
 ·
  refine ai d109 [.b true] rfl trivial rfl (aj ?_)
  simp only [nrm,xdn,reduceIte,Nat.reduceLT,Nat.reduceSub,Nat.reduceAdd]
 simp only [nrm,xdn,reduceIte,Nat.reduceLT,Nat.reduceSub,Nat.reduceAdd,Bool.not_eq_false'] at h h2
 obtain ⟨hC,hfl⟩:=HO h
 obtain ⟨b,rfl,hb,hsl⟩:=GL hC h2
 rw [hfl,hsl]
 have hns:=hC.mem.ns
 have hnl:=hC.mem.nl
 have hnh:=hC.mem.nh4
 refine bO (fun ds=>∃ j : Nat,ds=[.i j]∧j≤m.locks.length∧∀ i,i < j→m.locks.getD i 0=-1) (fun ds=>m.locks.length - (ds.getD 0 .u).int.toNat) ⟨0,rfl,by omega,fun i hi=>absurd hi (by omega)⟩ ?_
 rintro ds - ⟨j,rfl,hj,hr⟩
 refine G0 (fun hlt=>?_) (fun hge=>?_)
 ·simp only [nrm,xdn,reduceIte,Nat.reduceLT,Nat.reduceSub,Nat.reduceAdd,aw] at hlt
  refine eh (by simp only [nrm,xdn,reduceIte,Nat.reduceLT,Nat.reduceSub,Nat.reduceAdd];omega) (G0 (fun h=>aj ?_) (fun h=>?_))
  ·simp only [nrm,xdn,reduceIte,Nat.reduceLT,Nat.reduceSub,Nat.reduceAdd]
  ·simp only [nrm,xdn,reduceIte,Nat.reduceLT,Nat.reduceSub,Nat.reduceAdd,aG,Int.toNat_natCast,Bool.not_eq_false'] at h
   refine G1 (by simp only [nrm,xdn,reduceIte,Nat.reduceLT,Nat.reduceSub,Nat.reduceAdd];omega) (aV ⟨⟨j + 1,?_,by omega,fun i hi=>?_⟩,?_⟩)
   ·simp only [nrm,xdn,reduceIte,Nat.reduceLT,Nat.reduceSub,Nat.reduceAdd];rfl
   ·by_cases e : i=j
    ·rw [e];exact h
    ·exact hr i (by omega)
   ·simp only [nrm,xdn,reduceIte,Nat.reduceLT,Nat.reduceSub,Nat.reduceAdd];omega
 simp only [nrm,xdn,reduceIte,Nat.reduceLT,Nat.reduceSub,Nat.reduceAdd,aw] at hge
 have hr : ∀ i,i < m.heads.length→m.locks.getD i 0=-1:=fun i hi=>hr i (by omega)
 obtain ⟨g0,x0,hR,xC,xe,xfl,xn⟩:=wU hC hb hr
 obtain ⟨k0,hL,ke,kk⟩:=zw hC hb hr
 have hR : bZ (fun m f=>aB m f 0) (3 * m.slots.length + 5) (aX ⟨4,⟨0,0⟩,0,b,0⟩) m=(g0,x0,true):=hR
 have hL : bZ (fun m f=>aB m f 0) (2 * m.slots.length + 5) (aX ⟨5,⟨0,0⟩,0,b,0⟩) m=(k0,m,true):=hL
 clear h h2 hfl hsl hge hj
 refine ai d62 m.cds rfl trivial (by simp only [nrm,xdn,reduceIte,Nat.reduceLT,Nat.reduceSub,Nat.reduceAdd,fn62]) (ai d62 m.cds rfl trivial (by simp only [nrm,xdn,reduceIte,Nat.reduceLT,Nat.reduceSub,Nat.reduceAdd,fn62]) ?_)
 refine G1 (by simp only [nrm,xdn,reduceIte,Nat.reduceLT,Nat.reduceSub,Nat.reduceAdd,aN];omega) (G1 (by simp only [nrm,xdn,reduceIte,Nat.reduceLT,Nat.reduceSub,Nat.reduceAdd,aN];omega) ?_)
 refine ai d41 (aX ⟨4,⟨0,0⟩,0,b,0⟩).cds rfl trivial (by simp only [nrm,xdn,reduceIte,Nat.reduceLT,Nat.reduceSub,Nat.reduceAdd,Gj]) ?_
 refine bO (fun ds=>∃ (i : Nat) (z : Mem) (f : Frm),ds=.i i :: (z.cds ++ f.cds)∧i≤(3 * m.slots.length + 5)∧bZ (fun m f=>aB m f 0) ((3 * m.slots.length + 5) - i) f z=(g0,x0,true)∧aZ z∧bV z f∧(f.c.kind=4∨f.c.kind=5)) (fun ds=>(3 * m.slots.length + 5) - (ds.getD 0 .u).int.toNat) ⟨0,m,(aX ⟨4,⟨0,0⟩,0,b,0⟩),?_,by omega,by rw [Nat.sub_zero];exact hR,hC.mem.rJ,frm0 hb (.inl rfl),.inl rfl⟩ ?_
 ·simp only [nrm,xdn,reduceIte,Nat.reduceLT,Nat.reduceSub,Nat.reduceAdd,Mem.cds,Frm.cds,lca];rfl
 rintro ds - ⟨i,z,f,rfl,hi,ht,hx,hf,hk⟩
 simp only [Mem.cds,Frm.cds,lca]
 refine G0 (fun hlt=>?_) (fun hge=>?_)
 ·simp only [nrm,xdn,reduceIte,Nat.reduceLT,Nat.reduceSub,Nat.reduceAdd,aN] at hlt
  refine ai d110 (((fun m f=>aB m f 0) z f).2.cds ++ ((fun m f=>aB m f 0) z f).1.cds) rfl (by simp only [nrm,xdn,reduceIte,Nat.reduceLT,Nat.reduceSub,Nat.reduceAdd];exact pi110 hx hf hk 0) (by simp only [nrm,xdn,reduceIte,Nat.reduceLT,Nat.reduceSub,Nat.reduceAdd,fn110]) ?_
  have e1 : (3 * m.slots.length + 5) - i=(3 * m.slots.length + 5) - (i + 1) + 1:=by omega
  have hfit:=GI hx hf hk
  rw [e1] at ht
  rcases hs : (fun m f=>aB m f 0) z f with ⟨g,y⟩
  rw [hs] at hfit
  simp only [Mem.cds,Frm.cds,lca]
  refine G0 (fun hd=>?_) (fun hd=>?_)
  ·simp only [nrm,xdn,reduceIte,Nat.reduceLT,Nat.reduceSub,Nat.reduceAdd] at hd
   rw [dm hs hd] at ht
   clear hlt e1 hfit hs hd hx hf hk hi
   obtain ⟨rfl,rfl,-⟩ : g=g0∧y=x0∧True:=by cases ht;exact ⟨rfl,rfl,trivial⟩
   clear hR ht
   refine G1 (by simp only [nrm,xdn,reduceIte,Nat.reduceLT,Nat.reduceSub,Nat.reduceAdd,aN];omega) (G1 (by simp only [nrm,xdn,reduceIte,Nat.reduceLT,Nat.reduceSub,Nat.reduceAdd,aN];omega) ?_)
   refine ai d41 (aX ⟨5,⟨0,0⟩,0,b,0⟩).cds rfl trivial (by simp only [nrm,xdn,reduceIte,Nat.reduceLT,Nat.reduceSub,Nat.reduceAdd,Gj]) ?_
   refine bO (fun ds=>∃ (i : Nat) (z : Mem) (f : Frm),ds=.i i :: (z.cds ++ f.cds)∧i≤(2 * m.slots.length + 5)∧bZ (fun m f=>aB m f 0) ((2 * m.slots.length + 5) - i) f z=(k0,m,true)∧aZ z∧bV z f∧(f.c.kind=4∨f.c.kind=5)) (fun ds=>(2 * m.slots.length + 5) - (ds.getD 0 .u).int.toNat) ⟨0,m,(aX ⟨5,⟨0,0⟩,0,b,0⟩),?_,by omega,by rw [Nat.sub_zero];exact hL,hC.mem.rJ,frm0 hb (.inr rfl),.inr rfl⟩ ?_
   ·simp only [nrm,xdn,reduceIte,Nat.reduceLT,Nat.reduceSub,Nat.reduceAdd,Mem.cds,Frm.cds,lca];rfl
   rintro ds - ⟨i,z2,f,rfl,hi,ht,hx,hf,hk⟩
   simp only [Mem.cds,Frm.cds,lca]
   refine G0 (fun hlt=>?_) (fun hge=>?_)
   ·simp only [nrm,xdn,reduceIte,Nat.reduceLT,Nat.reduceSub,Nat.reduceAdd,aN] at hlt
    refine ai d110 (((fun m f=>aB m f 0) z2 f).2.cds ++ ((fun m f=>aB m f 0) z2 f).1.cds) rfl (by simp only [nrm,xdn,reduceIte,Nat.reduceLT,Nat.reduceSub,Nat.reduceAdd];exact pi110 hx hf hk 0) (by simp only [nrm,xdn,reduceIte,Nat.reduceLT,Nat.reduceSub,Nat.reduceAdd,fn110]) ?_
    have e1 : (2 * m.slots.length + 5) - i=(2 * m.slots.length + 5) - (i + 1) + 1:=by omega
    have hfit:=GI hx hf hk
    rw [e1] at ht
    rcases hs : (fun m f=>aB m f 0) z2 f with ⟨k,y2⟩
    rw [hs] at hfit
    simp only [Mem.cds,Frm.cds,lca]
    refine G0 (fun hd=>?_) (fun hd=>?_)
    ·simp only [nrm,xdn,reduceIte,Nat.reduceLT,Nat.reduceSub,Nat.reduceAdd] at hd
     rw [dm hs hd] at ht
     clear hlt e1 hfit hs hd hx hf hk hi
     obtain ⟨rfl,rfl,-⟩ : k=k0∧y2=m∧True:=by cases ht;exact ⟨rfl,rfl,trivial⟩
     clear hL ht
     have hm48:=pC hC.mem
     have hy48:=pC xC.mem
     have hcl : (chL y2 b).length≤y2.slots.length:=(oL hC.mem _).1
     refine ai d71 [eM (aq y),.i 0] rfl trivial (by simp only [nrm,xdn,reduceIte,Nat.reduceLT,Nat.reduceSub,Nat.reduceAdd,fn71,Ht xC]) (Fk (by simp only [nrm,xdn,reduceIte,Nat.reduceLT,Nat.reduceSub,Nat.reduceAdd];rfl) (Fk (by simp only [nrm,xdn,reduceIte,Nat.reduceLT,Nat.reduceSub,Nat.reduceAdd,xe];rfl) (Fk (by simp only [nrm,xdn,reduceIte,Nat.reduceLT,Nat.reduceSub,Nat.reduceAdd,ke];rfl) ?_)))
     refine ai d59 [.b true] rfl trivial (by simp only [nrm,xdn,reduceIte,Nat.reduceLT,Nat.reduceSub,Nat.reduceAdd,fn59];simp) (Fk rfl (Fk (by simp only [nrm,xdn,reduceIte,Nat.reduceLT,Nat.reduceSub,Nat.reduceAdd,bX,aw,kk,List.length_map];simp) ?_))
     refine bO (fun ds=>∃ j : Nat,ds=[.i j]∧j≤(chL y2 b).length) (fun ds=>(chL y2 b).length - (ds.getD 0 .u).int.toNat) ⟨0,rfl,by omega⟩ ?_
     rintro ds - ⟨j,rfl,hj⟩
     refine G0 (fun hlt=>?_) (fun hge=>?_)
     ·simp only [nrm,xdn,reduceIte,Nat.reduceLT,Nat.reduceSub,Nat.reduceAdd,aw] at hlt
      have hjl : j < (chL y2 b).length:=by omega
      have hin:=cW hC (pA hjl)
      have hkj : k.keys.getD j default=kys y2 ((chL y2 b).getD j 0):=by
       rw [kk,List.getD_eq_getElem?_getD,List.getElem?_map,List.getD_eq_getElem?_getD,List.getElem?_eq_getElem hjl];rfl
      have hks : ∀ a : Int,y2.slots.getD a.toNat default=msl y2 a.toNat:=fun _=>rfl
      refine eh (by simp only [nrm,xdn,reduceIte,Nat.reduceLT,Nat.reduceSub,Nat.reduceAdd];omega) (lv (by simp only [nrm,xdn,reduceIte,Nat.reduceLT,Nat.reduceSub,Nat.reduceAdd,bX,kk,List.length_map];omega) (eh (by simp only [nrm,xdn,reduceIte,Nat.reduceLT,Nat.reduceSub,Nat.reduceAdd,aG,Int.toNat_natCast];exact hin.1) (lv (by simp only [nrm,xdn,reduceIte,Nat.reduceLT,Nat.reduceSub,Nat.reduceAdd,aG,Int.toNat_natCast,aN];exact hin.2) ?_)))
      refine Fk (by simp only [nrm,xdn,reduceIte,Nat.reduceLT,Nat.reduceSub,Nat.reduceAdd,JB,JA,aG,cG,cF,Int.toNat_natCast,hkj,hks,kys,BEq.rfl,Bool.and_true,Bool.not_true]) (G1 (by simp only [nrm,xdn,reduceIte,Nat.reduceLT,Nat.reduceSub,Nat.reduceAdd];omega) (aV ⟨⟨j + 1,?_,by omega⟩,?_⟩))
      ·simp only [nrm,xdn,reduceIte,Nat.reduceLT,Nat.reduceSub,Nat.reduceAdd];rfl
      ·simp only [nrm,xdn,reduceIte,Nat.reduceLT,Nat.reduceSub,Nat.reduceAdd];omega
     clear hge hj
     obtain ⟨P,hP⟩ : ∃ P : cI→Bool,P=fun w=>!(decide (w.till≤y2.now) && decide (w.slot∈chL y2 b)):=⟨_,rfl⟩
     rw [← hP] at xfl
     have hP0 : ∀ w : cI,w.till≤y2.now→w.slot∈chL y2 b→P w=false:=fun w h1 h2=>by rw [hP];simp [h1,h2]
     have hP1 : ∀ w : cI,¬ w.till≤y2.now→P w=true:=fun w h1=>by rw [hP];simp [h1]
     have hP2 : ∀ w : cI,w.slot ∉ chL y2 b→P w=true:=fun w h1=>by rw [hP];simp [h1]
     clear hP
     refine bO (fun ds=>∃ j : Nat,ds=[.i j]∧j≤(aq y2).length∧∀ i,i < j→P ((aq y2).getD i default)=true) (fun ds=>(aq y2).length - (ds.getD 0 .u).int.toNat) ⟨0,rfl,by omega,fun i hi=>absurd hi (by omega)⟩ ?_
     rintro ds - ⟨j,rfl,hj,hno⟩
     refine G0 (fun hlt=>?_) (fun hge=>?_)
     ·simp only [nrm,xdn,reduceIte,Nat.reduceLT,Nat.reduceSub,Nat.reduceAdd,iT] at hlt
      have hjl : j < (aq y2).length:=by omega
      refine eh (by simp only [nrm,xdn,reduceIte,Nat.reduceLT,Nat.reduceSub,Nat.reduceAdd];omega) (G0 (fun ht=>?_) (fun ht=>?_))
      ·simp only [nrm,xdn,reduceIte,Nat.reduceLT,Nat.reduceSub,Nat.reduceAdd,Hx,Int.toNat_natCast] at ht
       refine ai d98 [.b (decide (((aq y2).getD j default).slot∈chL y2 b))] rfl trivial (by simp only [nrm,xdn,reduceIte,Nat.reduceLT,Nat.reduceSub,Nat.reduceAdd,d98,bY,Hh,Int.toNat_natCast]) (G0 (fun hin=>?_) (fun hin=>?_))
       ·simp only [nrm,xdn,reduceIte,Nat.reduceLT,Nat.reduceSub,Nat.reduceAdd] at hin
        have hstrike:=hP0 _ ht hin
        refine Fk (by simp only [nrm,xdn,reduceIte,Nat.reduceLT,Nat.reduceSub,Nat.reduceAdd];omega) (G1 (by simp only [nrm,xdn,reduceIte,Nat.reduceLT,Nat.reduceSub,Nat.reduceAdd];omega) ?_)
        refine bO (fun ds=>∃ (A : List cI) (i j : Nat),ds=[eM A,.i i,.i j]∧Gh P (aq y2) A i j) (fun ds=>(aq y2).length - (ds.getD 2 .u).int.toNat) ⟨aq y2,j,j + 1,?_,⟨rfl,by omega,by omega,?_,rfl⟩⟩ ?_
        ·simp only [nrm,xdn,reduceIte,Nat.reduceLT,Nat.reduceSub,Nat.reduceAdd];rfl
        ·rw [Ge hjl,if_neg (by rw [hstrike];exact Bool.false_ne_true),List.append_nil]
         refine (List.filter_eq_self.2 fun w hw=>?_).symm
         obtain ⟨i,hi,e⟩:=HQ (l:=(aq y2).take j) hw
         have hi2 : i < j:=by simp at hi;omega
         have e2 : ((aq y2).take j).getD i default=(aq y2).getD i default:=by rw [List.getD_eq_getElem?_getD,List.getElem?_take,if_pos hi2,← List.getD_eq_getElem?_getD]
         rw [e,e2];exact hno i hi2
        clear hno hstrike hin ht hlt hj hjl
        rintro ds - ⟨A,i,j,rfl,S⟩
        have s1:=S.len
        have s2:=S.ij
        have s3:=S.jl
        refine G0 (fun hlt=>?_) (fun hge=>?_)
        ·simp only [nrm,xdn,reduceIte,Nat.reduceLT,Nat.reduceSub,Nat.reduceAdd,iT] at hlt
         refine eh (by simp only [nrm,xdn,reduceIte,Nat.reduceLT,Nat.reduceSub,Nat.reduceAdd];omega) (G0 (fun ht=>?_) (fun ht=>?_))
         ·simp only [nrm,xdn,reduceIte,Nat.reduceLT,Nat.reduceSub,Nat.reduceAdd,Hx,Int.toNat_natCast] at ht
          refine ai d98 [.b (decide ((A.getD j default).slot∈chL y2 b))] rfl trivial (by simp only [nrm,xdn,reduceIte,Nat.reduceLT,Nat.reduceSub,Nat.reduceAdd,d98,bY,Hh,Int.toNat_natCast]) (G0 (fun hin=>?_) (fun hin=>?_))
          ·simp only [nrm,xdn,reduceIte,Nat.reduceLT,Nat.reduceSub,Nat.reduceAdd,Bool.not_eq_true',decide_eq_false_iff_not] at hin
           have hkeep:=hP2 _ hin
           refine eh (by simp only [nrm,xdn,reduceIte,Nat.reduceLT,Nat.reduceSub,Nat.reduceAdd];omega) (lv (by simp only [nrm,xdn,reduceIte,Nat.reduceLT,Nat.reduceSub,Nat.reduceAdd,iT];omega) (G1 (by simp only [nrm,xdn,reduceIte,Nat.reduceLT,Nat.reduceSub,Nat.reduceAdd];omega) (G1 (by simp only [nrm,xdn,reduceIte,Nat.reduceLT,Nat.reduceSub,Nat.reduceAdd];omega) (aV ⟨⟨A.set i (A.getD j default),i + 1,j + 1,?_,S.fa (by omega) (by rw [← H6 S.dr];exact hkeep)⟩,?_⟩))))
           ·simp only [nrm,xdn,reduceIte,Nat.reduceLT,Nat.reduceSub,Nat.reduceAdd,Int.toNat_natCast]
            rw [Gq (by omega) (by omega) rfl rfl rfl rfl];rfl
           ·simp only [nrm,xdn,reduceIte,Nat.reduceLT,Nat.reduceSub,Nat.reduceAdd];omega
          ·simp only [nrm,xdn,reduceIte,Nat.reduceLT,Nat.reduceSub,Nat.reduceAdd,Bool.not_eq_false',decide_eq_true_eq] at hin
           have hkeep:=hP0 _ ht hin
           refine G1 (by simp only [nrm,xdn,reduceIte,Nat.reduceLT,Nat.reduceSub,Nat.reduceAdd];omega) (aV ⟨⟨A,i,j + 1,?_,S.Gl (by omega) (by rw [← H6 S.dr];exact hkeep)⟩,?_⟩)
           ·simp only [nrm,xdn,reduceIte,Nat.reduceLT,Nat.reduceSub,Nat.reduceAdd];rfl
           ·simp only [nrm,xdn,reduceIte,Nat.reduceLT,Nat.reduceSub,Nat.reduceAdd];omega
         ·simp only [nrm,xdn,reduceIte,Nat.reduceLT,Nat.reduceSub,Nat.reduceAdd,Hx,Int.toNat_natCast] at ht
          have hkeep:=hP1 _ ht
          refine eh (by simp only [nrm,xdn,reduceIte,Nat.reduceLT,Nat.reduceSub,Nat.reduceAdd];omega) (lv (by simp only [nrm,xdn,reduceIte,Nat.reduceLT,Nat.reduceSub,Nat.reduceAdd,iT];omega) (G1 (by simp only [nrm,xdn,reduceIte,Nat.reduceLT,Nat.reduceSub,Nat.reduceAdd];omega) (G1 (by simp only [nrm,xdn,reduceIte,Nat.reduceLT,Nat.reduceSub,Nat.reduceAdd];omega) (aV ⟨⟨A.set i (A.getD j default),i + 1,j + 1,?_,S.fa (by omega) (by rw [← H6 S.dr];exact hkeep)⟩,?_⟩))))
          ·simp only [nrm,xdn,reduceIte,Nat.reduceLT,Nat.reduceSub,Nat.reduceAdd,Int.toNat_natCast]
           rw [Gq (by omega) (by omega) rfl rfl rfl rfl];rfl
          ·simp only [nrm,xdn,reduceIte,Nat.reduceLT,Nat.reduceSub,Nat.reduceAdd];omega
        ·simp only [nrm,xdn,reduceIte,Nat.reduceLT,Nat.reduceSub,Nat.reduceAdd,iT] at hge
         have hf : ∀ l : List cI,(eM l).rows=l.map cI.row:=fun _=>rfl
         have hjl : j=(aq y2).length:=by omega
         have hres : A.take i=aq y:=by rw [S.tk,xfl,hjl,List.take_length]
         have hil : i=(aq y).length:=by rw [← hres,List.length_take];omega
         refine eh (by simp only [nrm,xdn,reduceIte,Nat.reduceLT,Nat.reduceSub,Nat.reduceAdd];omega) ?_
         repeat refine ag (by simp only [nrm,xdn,reduceIte,Nat.reduceLT,Nat.reduceSub,Nat.reduceAdd,hf,List.length_take,List.length_drop,List.length_append,List.length_replicate,List.length_map];omega) ?_
         refine ai d75 [.b true] rfl trivial ?_ (Bf rfl (G1 (by simp only [nrm,xdn,reduceIte,Nat.reduceLT,Nat.reduceSub,Nat.reduceAdd,iT];omega) (aj ?_)))
         ·simp only [nrm,xdn,reduceIte,Nat.reduceLT,Nat.reduceSub,Nat.reduceAdd,hf,Int.toNat_natCast]
          have e2 : (A.map cI.row).take i=(aq y).map cI.row:=by rw [← List.map_take,hres]
          rw [List.take_left' (by rw [e2,List.length_map,hil]),e2]
          exact si75 _
         ·simp only [nrm,xdn,reduceIte,Nat.reduceLT,Nat.reduceSub,Nat.reduceAdd,iT,xn,hil]
          simp
       ·simp only [nrm,xdn,reduceIte,Nat.reduceLT,Nat.reduceSub,Nat.reduceAdd] at hin
        have hkeep:=hP2 _ hin
        refine G1 (by simp only [nrm,xdn,reduceIte,Nat.reduceLT,Nat.reduceSub,Nat.reduceAdd];omega) (aV ⟨⟨j + 1,?_,by omega,fun i hi=>?_⟩,?_⟩)
        ·simp only [nrm,xdn,reduceIte,Nat.reduceLT,Nat.reduceSub,Nat.reduceAdd];rfl
        ·by_cases e : i=j
         ·rw [e];exact hkeep
         ·exact hno i (by omega)
        ·simp only [nrm,xdn,reduceIte,Nat.reduceLT,Nat.reduceSub,Nat.reduceAdd];omega
      ·simp only [nrm,xdn,reduceIte,Nat.reduceLT,Nat.reduceSub,Nat.reduceAdd,Hx,Int.toNat_natCast] at ht
       have hkeep:=hP1 _ ht
       refine G1 (by simp only [nrm,xdn,reduceIte,Nat.reduceLT,Nat.reduceSub,Nat.reduceAdd];omega) (aV ⟨⟨j + 1,?_,by omega,fun i hi=>?_⟩,?_⟩)
       ·simp only [nrm,xdn,reduceIte,Nat.reduceLT,Nat.reduceSub,Nat.reduceAdd];rfl
       ·by_cases e : i=j
        ·rw [e];exact hkeep
        ·exact hno i (by omega)
       ·simp only [nrm,xdn,reduceIte,Nat.reduceLT,Nat.reduceSub,Nat.reduceAdd];omega
     ·simp only [nrm,xdn,reduceIte,Nat.reduceLT,Nat.reduceSub,Nat.reduceAdd,iT] at hge
      have hall : aq y=aq y2:=by
       rw [xfl]
       refine List.filter_eq_self.2 fun w hw=>?_
       obtain ⟨i,hi,e⟩:=HQ hw
       rw [e];exact hno i (by omega)
      rw [hall] at xn ⊢
      refine ai d75 [.b true] rfl trivial (by simp only [nrm,xdn,reduceIte,Nat.reduceLT,Nat.reduceSub,Nat.reduceAdd];exact si75 _) (Bf rfl (G1 (by simp only [nrm,xdn,reduceIte,Nat.reduceLT,Nat.reduceSub,Nat.reduceAdd,iT];omega) (aj ?_)))
      simp only [nrm,xdn,reduceIte,Nat.reduceLT,Nat.reduceSub,Nat.reduceAdd,iT,xn]
      simp
    ·simp only [nrm,xdn,reduceIte,Nat.reduceLT,Nat.reduceSub,Nat.reduceAdd] at hd
     rw [bd hs hd] at ht
     refine G1 (by simp only [nrm,xdn,reduceIte,Nat.reduceLT,Nat.reduceSub,Nat.reduceAdd];omega) (aV ⟨⟨i + 1,y2,k,?_,by omega,ht,hfit hd⟩,?_⟩)
     ·simp only [nrm,xdn,reduceIte,Nat.reduceLT,Nat.reduceSub,Nat.reduceAdd,Mem.cds,Frm.cds,lca];rfl
     ·simp only [nrm,xdn,reduceIte,Nat.reduceLT,Nat.reduceSub,Nat.reduceAdd];omega
   ·simp only [nrm,xdn,reduceIte,Nat.reduceLT,Nat.reduceSub,Nat.reduceAdd,aN] at hge
    rw [show (2 * m.slots.length + 5) - i=0 from by omega] at ht
    cases ht
  ·simp only [nrm,xdn,reduceIte,Nat.reduceLT,Nat.reduceSub,Nat.reduceAdd] at hd
   rw [bd hs hd] at ht
   refine G1 (by simp only [nrm,xdn,reduceIte,Nat.reduceLT,Nat.reduceSub,Nat.reduceAdd];omega) (aV ⟨⟨i + 1,y,g,?_,by omega,ht,hfit hd⟩,?_⟩)
   ·simp only [nrm,xdn,reduceIte,Nat.reduceLT,Nat.reduceSub,Nat.reduceAdd,Mem.cds,Frm.cds,lca];rfl
   ·simp only [nrm,xdn,reduceIte,Nat.reduceLT,Nat.reduceSub,Nat.reduceAdd];omega
 ·simp only [nrm,xdn,reduceIte,Nat.reduceLT,Nat.reduceSub,Nat.reduceAdd,aN] at hge
  rw [show (3 * m.slots.length + 5) - i=0 from by omega] at ht
  cases ht
end Go.Proofs.Ytpmamacjepcdmaa
