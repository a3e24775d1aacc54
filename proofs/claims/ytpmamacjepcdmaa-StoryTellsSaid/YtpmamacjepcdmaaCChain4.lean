import Derived.Test.YtpmamacjepcdmaaCWorldChk
import Derived.Test.YtpmamacjepcdmaaCLook
import Derived.Test.YtpmamacjepcdmaaCAdd
import Derived.Test.YtpmamacjepcdmaaCSweep
import Derived.Test.YtpmamacjepcdmaaCStep
namespace Go.Proofs.Ytpmamacjepcdmaa
open Go Go.Sy Go.RowKit
set_option linter.unusedSimpArgs false
set_option linter.unusedVariables false
def Wrd.gone (w : Wrd) (x : Int) (r : Frm × Mem) : Wrd:=⟨r.2,w.ts.modify x.toNat fun t=>{ t with busy:=!r.1.done,f:=r.1}⟩
def jo (w : Wrd) (x : Int) : Wrd × Int :=
 if (tsk w x).busy=false then (w,8)
 else if (tsk w x).f.c.kind=1 then
  (if (bw w.m (tsk w x).f).1.done=true∧(bw w.m (tsk w x).f).1.e=0 then
   (⟨(bw w.m (tsk w x).f).2,w.ts.modify x.toNat fun t=>{ t with busy:=!(bw w.m (tsk w x).f).1.done,f:=(bw w.m (tsk w x).f).1,held:=(tsk w x).held ++ [(bw w.m (tsk w x).f).1.slot]}⟩,0)
  else (w.gone x (bw w.m (tsk w x).f),0))
 else if (tsk w x).f.c.kind=2 then (w.gone x (cx w.m (tsk w x).f x),0)
 else if (tsk w x).f.c.kind=3 then (w.gone x (bS w.m (tsk w x).f x),0)
 else if (tsk w x).f.c.kind=4∨(tsk w x).f.c.kind=5 then (w.gone x (bB w.m (tsk w x).f x),0)
 else if 0≤indexOf (tsk w x).f.c.slot (tsk w x).held 0 then
  (⟨put w.m (tsk w x).f.c.slot,w.ts.modify x.toNat fun t=>{ t with busy:=!(aF (tsk w x).f 0).done,f:=aF (tsk w x).f 0,held:=(tsk w x).held.take (indexOf (tsk w x).f.c.slot (tsk w x).held 0).toNat ++ (tsk w x).held.drop ((indexOf (tsk w x).f.c.slot (tsk w x).held 0) + 1).toNat}⟩,0)
 else (w.gone x (aF (tsk w x).f 0,w.m),0)
theorem pf {α : Type} [DecidableEq α] (x : α) : ∀ (l : List α) (i : Nat),indexOf x l i < i + l.length∨indexOf x l i=-1
 | [],i=>.inr rfl
 | a :: l,i=>by
  simp only [indexOf,List.length_cons]
  split
  ·left;omega
  ·rcases pf x l (i + 1) with h | h
   ·left;omega
   ·exact .inr h
theorem put_A2 {ts : List Tsk} {k : Nat} {t : Tsk} (ht : ts.getD k default=t) (hto : t.own=true) (b : Bool) (f : Frm) : CD.l ((ar ts).rows.modify k fun r=>((((((((((((((((r.set 15 (.o (aa t.held).rows)).set 1 (.i f.c.kind)).set 2 (.i f.c.k.a)).set 3 (.i f.c.k.b)).set 4 (.i f.c.time)).set 5 (.i f.c.bucket)).set 6 (.i f.c.slot)).set 7 (.i f.pc)).set 8 (.i f.cur)).set 9 (.i f.prev)).set 10 (.i f.slot)).set 11 (.i f.n)).set 12 (ba f.keys)).set 13 (.b f.done)).set 14 (.i f.e)).set 0 (.b b)))=ar (ts.modify k fun t=>{ t with busy:=b,f:=f}) :=
 dE (by rw [ht,er hto];simp only [Tsk.fF,Tsk.hd,hto,if_true];rfl)
def s208 : Sig:=⟨[.ptr [.own 52 kS,.own 3 kI,.own 3 kI,.own 3 kI,.int .i64,.own 129 kTo],.one (.int .i64)],[.one (.int .i64)]⟩
def d208 : DC:=⟨s208,fun l=>0≤(l.getD 6 .u).int∧(l.getD 6 .u).int < (Wrd.of l).ts.length∧(∀ t∈(Wrd.of l).ts,t.own=true∧t.held.length≤10000)∧aO (Wrd.of l).m∧((tsk (Wrd.of l) (l.getD 6 .u).int).busy=true→bL (Wrd.of l).m (tsk (Wrd.of l) (l.getD 6 .u).int).f),fun l=>(jo (Wrd.of l) (l.getD 6 .u).int).1.cds ++ [.i (jo (Wrd.of l) (l.getD 6 .u).int).2]⟩
def l208 : List (Nat × Ct):=[(101,d101.ct),(107,d107.ct),(104,d104.ct),(110,d110.ct),(179,d179.ct),(167,d167.ct),(215,d215.ct),(44,d44.ct)]
def z208 : Cx:={ T:=ttA,C:=sigs l208,F:=[],hints:=[],sig:=s208}
def t208 : Tree :=
 (.need (.le (.int 0) (.var 6))
 (.need (.lt (.var 6) (.len (.var 5)))
 (.ite (.not (.cell (.var 5) (.var 6) 0))
 (.need (.clean (.var 5) 15)
 (.ret [.var 0,.var 1,.var 2,.var 3,.var 4,.var 5,.int 8]))
 (.ite (.eq (.cell (.var 5) (.var 6) 1) (.int 1))
 (.call 101 [.var 0,.var 1,.var 2,.var 3,.var 4,.cell (.var 5) (.var 6) 1,.cell (.var 5) (.var 6) 2,.cell (.var 5) (.var 6) 3,.cell (.var 5) (.var 6) 4,.cell (.var 5) (.var 6) 5,.cell (.var 5) (.var 6) 6,.cell (.var 5) (.var 6) 7,.cell (.var 5) (.var 6) 8,.cell (.var 5) (.var 6) 9,.cell (.var 5) (.var 6) 10,.cell (.var 5) (.var 6) 11,.cell (.var 5) (.var 6) 12,.cell (.var 5) (.var 6) 13,.cell (.var 5) (.var 6) 14] 7
 (.ite (.var 24)
 (.ite (.eq (.var 25) (.int 0))
 (.need (.isO (.cell (.var 5) (.var 6) 15))
 (.need (.le (.add (.len (.shut (.cell (.var 5) (.var 6) 15))) (.int 1)) (.int 17592186044416))
 (.need (.clean (.set (.set (.set (.set (.set (.set (.set (.set (.set (.set (.set (.set (.set (.set (.set (.set (.var 5) (.var 6) 1 (.var 12)) (.var 6) 2 (.var 13)) (.var 6) 3 (.var 14)) (.var 6) 4 (.var 15)) (.var 6) 5 (.var 16)) (.var 6) 6 (.var 17)) (.var 6) 7 (.var 18)) (.var 6) 8 (.var 19)) (.var 6) 9 (.var 20)) (.var 6) 10 (.var 21)) (.var 6) 11 (.var 22)) (.var 6) 12 (.var 23)) (.var 6) 13 (.var 24)) (.var 6) 14 (.var 25)) (.var 6) 15 (.own (.app (.shut (.cell (.var 5) (.var 6) 15)) (.cons (.var 21) .row0)))) (.var 6) 0 (.not (.var 24))) 15)
 (.ret [.var 7,.var 8,.var 9,.var 10,.var 11,.set (.set (.set (.set (.set (.set (.set (.set (.set (.set (.set (.set (.set (.set (.set (.set (.var 5) (.var 6) 1 (.var 12)) (.var 6) 2 (.var 13)) (.var 6) 3 (.var 14)) (.var 6) 4 (.var 15)) (.var 6) 5 (.var 16)) (.var 6) 6 (.var 17)) (.var 6) 7 (.var 18)) (.var 6) 8 (.var 19)) (.var 6) 9 (.var 20)) (.var 6) 10 (.var 21)) (.var 6) 11 (.var 22)) (.var 6) 12 (.var 23)) (.var 6) 13 (.var 24)) (.var 6) 14 (.var 25)) (.var 6) 15 (.own (.app (.shut (.cell (.var 5) (.var 6) 15)) (.cons (.var 21) .row0)))) (.var 6) 0 (.not (.var 24)),.int 0]))))
 (.need (.clean (.set (.set (.set (.set (.set (.set (.set (.set (.set (.set (.set (.set (.set (.set (.set (.var 5) (.var 6) 1 (.var 12)) (.var 6) 2 (.var 13)) (.var 6) 3 (.var 14)) (.var 6) 4 (.var 15)) (.var 6) 5 (.var 16)) (.var 6) 6 (.var 17)) (.var 6) 7 (.var 18)) (.var 6) 8 (.var 19)) (.var 6) 9 (.var 20)) (.var 6) 10 (.var 21)) (.var 6) 11 (.var 22)) (.var 6) 12 (.var 23)) (.var 6) 13 (.var 24)) (.var 6) 14 (.var 25)) (.var 6) 0 (.not (.var 24))) 15)
 (.ret [.var 7,.var 8,.var 9,.var 10,.var 11,.set (.set (.set (.set (.set (.set (.set (.set (.set (.set (.set (.set (.set (.set (.set (.var 5) (.var 6) 1 (.var 12)) (.var 6) 2 (.var 13)) (.var 6) 3 (.var 14)) (.var 6) 4 (.var 15)) (.var 6) 5 (.var 16)) (.var 6) 6 (.var 17)) (.var 6) 7 (.var 18)) (.var 6) 8 (.var 19)) (.var 6) 9 (.var 20)) (.var 6) 10 (.var 21)) (.var 6) 11 (.var 22)) (.var 6) 12 (.var 23)) (.var 6) 13 (.var 24)) (.var 6) 14 (.var 25)) (.var 6) 0 (.not (.var 24)),.int 0])))
 (.need (.clean (.set (.set (.set (.set (.set (.set (.set (.set (.set (.set (.set (.set (.set (.set (.set (.var 5) (.var 6) 1 (.var 12)) (.var 6) 2 (.var 13)) (.var 6) 3 (.var 14)) (.var 6) 4 (.var 15)) (.var 6) 5 (.var 16)) (.var 6) 6 (.var 17)) (.var 6) 7 (.var 18)) (.var 6) 8 (.var 19)) (.var 6) 9 (.var 20)) (.var 6) 10 (.var 21)) (.var 6) 11 (.var 22)) (.var 6) 12 (.var 23)) (.var 6) 13 (.var 24)) (.var 6) 14 (.var 25)) (.var 6) 0 (.not (.var 24))) 15)
 (.ret [.var 7,.var 8,.var 9,.var 10,.var 11,.set (.set (.set (.set (.set (.set (.set (.set (.set (.set (.set (.set (.set (.set (.set (.var 5) (.var 6) 1 (.var 12)) (.var 6) 2 (.var 13)) (.var 6) 3 (.var 14)) (.var 6) 4 (.var 15)) (.var 6) 5 (.var 16)) (.var 6) 6 (.var 17)) (.var 6) 7 (.var 18)) (.var 6) 8 (.var 19)) (.var 6) 9 (.var 20)) (.var 6) 10 (.var 21)) (.var 6) 11 (.var 22)) (.var 6) 12 (.var 23)) (.var 6) 13 (.var 24)) (.var 6) 14 (.var 25)) (.var 6) 0 (.not (.var 24)),.int 0]))))
 (.ite (.eq (.cell (.var 5) (.var 6) 1) (.int 2))
 (.call 107 [.var 0,.var 1,.var 2,.var 3,.var 4,.cell (.var 5) (.var 6) 1,.cell (.var 5) (.var 6) 2,.cell (.var 5) (.var 6) 3,.cell (.var 5) (.var 6) 4,.cell (.var 5) (.var 6) 5,.cell (.var 5) (.var 6) 6,.cell (.var 5) (.var 6) 7,.cell (.var 5) (.var 6) 8,.cell (.var 5) (.var 6) 9,.cell (.var 5) (.var 6) 10,.cell (.var 5) (.var 6) 11,.cell (.var 5) (.var 6) 12,.cell (.var 5) (.var 6) 13,.cell (.var 5) (.var 6) 14,.var 6] 7
 (.need (.clean (.set (.set (.set (.set (.set (.set (.set (.set (.set (.set (.set (.set (.set (.set (.set (.var 5) (.var 6) 1 (.var 12)) (.var 6) 2 (.var 13)) (.var 6) 3 (.var 14)) (.var 6) 4 (.var 15)) (.var 6) 5 (.var 16)) (.var 6) 6 (.var 17)) (.var 6) 7 (.var 18)) (.var 6) 8 (.var 19)) (.var 6) 9 (.var 20)) (.var 6) 10 (.var 21)) (.var 6) 11 (.var 22)) (.var 6) 12 (.var 23)) (.var 6) 13 (.var 24)) (.var 6) 14 (.var 25)) (.var 6) 0 (.not (.var 24))) 15)
 (.ret [.var 7,.var 8,.var 9,.var 10,.var 11,.set (.set (.set (.set (.set (.set (.set (.set (.set (.set (.set (.set (.set (.set (.set (.var 5) (.var 6) 1 (.var 12)) (.var 6) 2 (.var 13)) (.var 6) 3 (.var 14)) (.var 6) 4 (.var 15)) (.var 6) 5 (.var 16)) (.var 6) 6 (.var 17)) (.var 6) 7 (.var 18)) (.var 6) 8 (.var 19)) (.var 6) 9 (.var 20)) (.var 6) 10 (.var 21)) (.var 6) 11 (.var 22)) (.var 6) 12 (.var 23)) (.var 6) 13 (.var 24)) (.var 6) 14 (.var 25)) (.var 6) 0 (.not (.var 24)),.int 0])))
 (.ite (.eq (.cell (.var 5) (.var 6) 1) (.int 3))
 (.call 104 [.var 0,.var 1,.var 2,.var 3,.var 4,.cell (.var 5) (.var 6) 1,.cell (.var 5) (.var 6) 2,.cell (.var 5) (.var 6) 3,.cell (.var 5) (.var 6) 4,.cell (.var 5) (.var 6) 5,.cell (.var 5) (.var 6) 6,.cell (.var 5) (.var 6) 7,.cell (.var 5) (.var 6) 8,.cell (.var 5) (.var 6) 9,.cell (.var 5) (.var 6) 10,.cell (.var 5) (.var 6) 11,.cell (.var 5) (.var 6) 12,.cell (.var 5) (.var 6) 13,.cell (.var 5) (.var 6) 14,.var 6] 7
 (.need (.clean (.set (.set (.set (.set (.set (.set (.set (.set (.set (.set (.set (.set (.set (.set (.set (.var 5) (.var 6) 1 (.var 12)) (.var 6) 2 (.var 13)) (.var 6) 3 (.var 14)) (.var 6) 4 (.var 15)) (.var 6) 5 (.var 16)) (.var 6) 6 (.var 17)) (.var 6) 7 (.var 18)) (.var 6) 8 (.var 19)) (.var 6) 9 (.var 20)) (.var 6) 10 (.var 21)) (.var 6) 11 (.var 22)) (.var 6) 12 (.var 23)) (.var 6) 13 (.var 24)) (.var 6) 14 (.var 25)) (.var 6) 0 (.not (.var 24))) 15)
 (.ret [.var 7,.var 8,.var 9,.var 10,.var 11,.set (.set (.set (.set (.set (.set (.set (.set (.set (.set (.set (.set (.set (.set (.set (.var 5) (.var 6) 1 (.var 12)) (.var 6) 2 (.var 13)) (.var 6) 3 (.var 14)) (.var 6) 4 (.var 15)) (.var 6) 5 (.var 16)) (.var 6) 6 (.var 17)) (.var 6) 7 (.var 18)) (.var 6) 8 (.var 19)) (.var 6) 9 (.var 20)) (.var 6) 10 (.var 21)) (.var 6) 11 (.var 22)) (.var 6) 12 (.var 23)) (.var 6) 13 (.var 24)) (.var 6) 14 (.var 25)) (.var 6) 0 (.not (.var 24)),.int 0])))
 (.ite (.eq (.cell (.var 5) (.var 6) 1) (.int 4))
 (.call 110 [.var 0,.var 1,.var 2,.var 3,.var 4,.cell (.var 5) (.var 6) 1,.cell (.var 5) (.var 6) 2,.cell (.var 5) (.var 6) 3,.cell (.var 5) (.var 6) 4,.cell (.var 5) (.var 6) 5,.cell (.var 5) (.var 6) 6,.cell (.var 5) (.var 6) 7,.cell (.var 5) (.var 6) 8,.cell (.var 5) (.var 6) 9,.cell (.var 5) (.var 6) 10,.cell (.var 5) (.var 6) 11,.cell (.var 5) (.var 6) 12,.cell (.var 5) (.var 6) 13,.cell (.var 5) (.var 6) 14,.var 6] 7
 (.need (.clean (.set (.set (.set (.set (.set (.set (.set (.set (.set (.set (.set (.set (.set (.set (.set (.var 5) (.var 6) 1 (.var 12)) (.var 6) 2 (.var 13)) (.var 6) 3 (.var 14)) (.var 6) 4 (.var 15)) (.var 6) 5 (.var 16)) (.var 6) 6 (.var 17)) (.var 6) 7 (.var 18)) (.var 6) 8 (.var 19)) (.var 6) 9 (.var 20)) (.var 6) 10 (.var 21)) (.var 6) 11 (.var 22)) (.var 6) 12 (.var 23)) (.var 6) 13 (.var 24)) (.var 6) 14 (.var 25)) (.var 6) 0 (.not (.var 24))) 15)
 (.ret [.var 7,.var 8,.var 9,.var 10,.var 11,.set (.set (.set (.set (.set (.set (.set (.set (.set (.set (.set (.set (.set (.set (.set (.var 5) (.var 6) 1 (.var 12)) (.var 6) 2 (.var 13)) (.var 6) 3 (.var 14)) (.var 6) 4 (.var 15)) (.var 6) 5 (.var 16)) (.var 6) 6 (.var 17)) (.var 6) 7 (.var 18)) (.var 6) 8 (.var 19)) (.var 6) 9 (.var 20)) (.var 6) 10 (.var 21)) (.var 6) 11 (.var 22)) (.var 6) 12 (.var 23)) (.var 6) 13 (.var 24)) (.var 6) 14 (.var 25)) (.var 6) 0 (.not (.var 24)),.int 0])))
 (.ite (.eq (.cell (.var 5) (.var 6) 1) (.int 5))
 (.call 110 [.var 0,.var 1,.var 2,.var 3,.var 4,.cell (.var 5) (.var 6) 1,.cell (.var 5) (.var 6) 2,.cell (.var 5) (.var 6) 3,.cell (.var 5) (.var 6) 4,.cell (.var 5) (.var 6) 5,.cell (.var 5) (.var 6) 6,.cell (.var 5) (.var 6) 7,.cell (.var 5) (.var 6) 8,.cell (.var 5) (.var 6) 9,.cell (.var 5) (.var 6) 10,.cell (.var 5) (.var 6) 11,.cell (.var 5) (.var 6) 12,.cell (.var 5) (.var 6) 13,.cell (.var 5) (.var 6) 14,.var 6] 7
 (.need (.clean (.set (.set (.set (.set (.set (.set (.set (.set (.set (.set (.set (.set (.set (.set (.set (.var 5) (.var 6) 1 (.var 12)) (.var 6) 2 (.var 13)) (.var 6) 3 (.var 14)) (.var 6) 4 (.var 15)) (.var 6) 5 (.var 16)) (.var 6) 6 (.var 17)) (.var 6) 7 (.var 18)) (.var 6) 8 (.var 19)) (.var 6) 9 (.var 20)) (.var 6) 10 (.var 21)) (.var 6) 11 (.var 22)) (.var 6) 12 (.var 23)) (.var 6) 13 (.var 24)) (.var 6) 14 (.var 25)) (.var 6) 0 (.not (.var 24))) 15)
 (.ret [.var 7,.var 8,.var 9,.var 10,.var 11,.set (.set (.set (.set (.set (.set (.set (.set (.set (.set (.set (.set (.set (.set (.set (.var 5) (.var 6) 1 (.var 12)) (.var 6) 2 (.var 13)) (.var 6) 3 (.var 14)) (.var 6) 4 (.var 15)) (.var 6) 5 (.var 16)) (.var 6) 6 (.var 17)) (.var 6) 7 (.var 18)) (.var 6) 8 (.var 19)) (.var 6) 9 (.var 20)) (.var 6) 10 (.var 21)) (.var 6) 11 (.var 22)) (.var 6) 12 (.var 23)) (.var 6) 13 (.var 24)) (.var 6) 14 (.var 25)) (.var 6) 0 (.not (.var 24)),.int 0])))
 (.ite (.eq (.cell (.var 5) (.var 6) 1) (.int 6))
 (.need (.isO (.cell (.var 5) (.var 6) 15))
 (.call 179 [.shut (.cell (.var 5) (.var 6) 15),.cell (.var 5) (.var 6) 6] 7
 (.ite (.le (.int 0) (.var 7))
 (.call 167 [.var 0,.var 1,.var 2,.var 3,.var 4,.cell (.var 5) (.var 6) 6] 8
 (.need (.fit (.add (.var 7) (.int 1)))
 (.call 215 [.shut (.cell (.var 5) (.var 6) 15),.var 7,.add (.var 7) (.int 1)] 13
 (.call 44 [.cell (.var 5) (.var 6) 1,.cell (.var 5) (.var 6) 2,.cell (.var 5) (.var 6) 3,.cell (.var 5) (.var 6) 4,.cell (.var 5) (.var 6) 5,.cell (.var 5) (.var 6) 6,.cell (.var 5) (.var 6) 7,.cell (.var 5) (.var 6) 8,.cell (.var 5) (.var 6) 9,.cell (.var 5) (.var 6) 10,.cell (.var 5) (.var 6) 11,.cell (.var 5) (.var 6) 12,.cell (.var 5) (.var 6) 13,.cell (.var 5) (.var 6) 14,.int 0] 14
 (.need (.clean (.set (.set (.set (.set (.set (.set (.set (.set (.set (.set (.set (.set (.set (.set (.set (.set (.var 5) (.var 6) 15 (.own (.var 13))) (.var 6) 1 (.var 14)) (.var 6) 2 (.var 15)) (.var 6) 3 (.var 16)) (.var 6) 4 (.var 17)) (.var 6) 5 (.var 18)) (.var 6) 6 (.var 19)) (.var 6) 7 (.var 20)) (.var 6) 8 (.var 21)) (.var 6) 9 (.var 22)) (.var 6) 10 (.var 23)) (.var 6) 11 (.var 24)) (.var 6) 12 (.var 25)) (.var 6) 13 (.var 26)) (.var 6) 14 (.var 27)) (.var 6) 0 (.not (.var 26))) 15)
 (.ret [.var 8,.var 9,.var 10,.var 11,.var 12,.set (.set (.set (.set (.set (.set (.set (.set (.set (.set (.set (.set (.set (.set (.set (.set (.var 5) (.var 6) 15 (.own (.var 13))) (.var 6) 1 (.var 14)) (.var 6) 2 (.var 15)) (.var 6) 3 (.var 16)) (.var 6) 4 (.var 17)) (.var 6) 5 (.var 18)) (.var 6) 6 (.var 19)) (.var 6) 7 (.var 20)) (.var 6) 8 (.var 21)) (.var 6) 9 (.var 22)) (.var 6) 10 (.var 23)) (.var 6) 11 (.var 24)) (.var 6) 12 (.var 25)) (.var 6) 13 (.var 26)) (.var 6) 14 (.var 27)) (.var 6) 0 (.not (.var 26)),.int 0]))))))
 (.call 44 [.cell (.var 5) (.var 6) 1,.cell (.var 5) (.var 6) 2,.cell (.var 5) (.var 6) 3,.cell (.var 5) (.var 6) 4,.cell (.var 5) (.var 6) 5,.cell (.var 5) (.var 6) 6,.cell (.var 5) (.var 6) 7,.cell (.var 5) (.var 6) 8,.cell (.var 5) (.var 6) 9,.cell (.var 5) (.var 6) 10,.cell (.var 5) (.var 6) 11,.cell (.var 5) (.var 6) 12,.cell (.var 5) (.var 6) 13,.cell (.var 5) (.var 6) 14,.int 0] 8
 (.need (.clean (.set (.set (.set (.set (.set (.set (.set (.set (.set (.set (.set (.set (.set (.set (.set (.set (.var 5) (.var 6) 15 (.own (.shut (.cell (.var 5) (.var 6) 15)))) (.var 6) 1 (.var 8)) (.var 6) 2 (.var 9)) (.var 6) 3 (.var 10)) (.var 6) 4 (.var 11)) (.var 6) 5 (.var 12)) (.var 6) 6 (.var 13)) (.var 6) 7 (.var 14)) (.var 6) 8 (.var 15)) (.var 6) 9 (.var 16)) (.var 6) 10 (.var 17)) (.var 6) 11 (.var 18)) (.var 6) 12 (.var 19)) (.var 6) 13 (.var 20)) (.var 6) 14 (.var 21)) (.var 6) 0 (.not (.var 20))) 15)
 (.ret [.var 0,.var 1,.var 2,.var 3,.var 4,.set (.set (.set (.set (.set (.set (.set (.set (.set (.set (.set (.set (.set (.set (.set (.set (.var 5) (.var 6) 15 (.own (.shut (.cell (.var 5) (.var 6) 15)))) (.var 6) 1 (.var 8)) (.var 6) 2 (.var 9)) (.var 6) 3 (.var 10)) (.var 6) 4 (.var 11)) (.var 6) 5 (.var 12)) (.var 6) 6 (.var 13)) (.var 6) 7 (.var 14)) (.var 6) 8 (.var 15)) (.var 6) 9 (.var 16)) (.var 6) 10 (.var 17)) (.var 6) 11 (.var 18)) (.var 6) 12 (.var 19)) (.var 6) 13 (.var 20)) (.var 6) 14 (.var 21)) (.var 6) 0 (.not (.var 20)),.int 0]))))))
 (.need (.clean (.set (.var 5) (.var 6) 0 (.not (.cell (.var 5) (.var 6) 13))) 15)
 (.ret [.var 0,.var 1,.var 2,.var 3,.var 4,.set (.var 5) (.var 6) 0 (.not (.cell (.var 5) (.var 6) 13)),.int 0])))))))))))
theorem run208 : run z208 6000 [.code (Try.f208.body.getD .skip),.fin (aP z208 Try.f208.results.toList 50)] { fn:=208,tmps:=z208.sig.aE ++ List.replicate (Try.f208.ntmps - z208.sig.aE.length) (.v (.one .undef)),stk:=[],h:=z208.sig.h0,nx:=z208.sig.ins.length,known:=[]}=t208:=by kernel_rfl
set_option maxHeartbeats 4000000 in
theorem ok208 : bJ Try.prog 208 d208.ct:=by
 refine ax (d:=d208) (Z:=z208) (Γ:=gam l208) (fn:=Try.f208) (c:=Try.f208.body.getD .skip) (aJ tok mixed (all_cons ok101 (all_cons ok107 (all_cons ok104 (all_cons ok110 (all_cons ok179 (all_cons ok167 (all_cons ok215 (all_cons ok44 all_nil)))))))) aK) Try.func208 (by kernel_rfl) (by kernel_rfl) rfl run208 fun E hk hp=>?_
 obtain ⟨hk0,hk1,hk2,hk3,hk4,hk5,hk6,_⟩:=hk
 obtain ⟨m,e0,e1,e2,e3,e4,b0,b1,b2,b3⟩:=bp (d0:=E 0) (d1:=E 1) (d2:=E 2) (d3:=E 3) (d4:=E 4) hk0 hk1 hk2 hk3 hk4
 obtain ⟨ts,e5,hts,b5⟩:=mB (d:=E 5) hk5
 have b5 : ts.length * 160≤140737488355328:=b5
 obtain ⟨x,e6⟩:=ok_int (d:=E 6) hk6
 have el : aG E d208.sig.ins.length=[ai m.slots,aa m.heads,aa m.free,aa m.locks,.i m.now,ar ts,.i x]:=by
  show [E 0,E 1,E 2,E 3,E 4,E 5,E 6]=_
  rw [e0,e1,e2,e3,e4,e5,e6]
 rw [el] at hp
 rw [el]
 rw [Env.aU el]
 clear el e0 e1 e2 e3 e4 e5 e6
 simp only [d208,eQ,List.getD_cons_zero,List.getD_cons_succ,CD.aL,aq] at hp ⊢
 obtain ⟨p0,p1,p2,hm,hf⟩:=hp
 obtain ⟨k,rfl⟩ : ∃ k : Nat,x=k:=⟨x.toNat,by omega⟩
 have hk : k < ts.length:=by omega
 obtain ⟨t,ht⟩ : ∃ t,ts.getD k default=t:=⟨_,rfl⟩
 have hto : t.own=true:=(p2 _ (ht ▸ dn hk)).1
 have hfit : t.held.length≤10000:=(p2 _ (ht ▸ dn hk)).2
 have htt : tsk ⟨m,ts⟩ k=t:=by unfold tsk;rw [Int.toNat_natCast];exact ht
 rw [htt] at hf
 have e0 : ((ar ts).rows.getD k []).getD 0 .u=.b t.busy:=by rw [bN 0 hk,ht];rfl
 have e1 : ((ar ts).rows.getD k []).getD 1 .u=.i t.f.c.kind:=by rw [bN 1 hk,ht];rfl
 have e2 : ((ar ts).rows.getD k []).getD 2 .u=.i t.f.c.k.a:=by rw [bN 2 hk,ht];rfl
 have e3 : ((ar ts).rows.getD k []).getD 3 .u=.i t.f.c.k.b:=by rw [bN 3 hk,ht];rfl
 have e4 : ((ar ts).rows.getD k []).getD 4 .u=.i t.f.c.time:=by rw [bN 4 hk,ht];rfl
 have e5 : ((ar ts).rows.getD k []).getD 5 .u=.i t.f.c.bucket:=by rw [bN 5 hk,ht];rfl
 have e6 : ((ar ts).rows.getD k []).getD 6 .u=.i t.f.c.slot:=by rw [bN 6 hk,ht];rfl
 have e7 : ((ar ts).rows.getD k []).getD 7 .u=.i t.f.pc:=by rw [bN 7 hk,ht];rfl
 have e8 : ((ar ts).rows.getD k []).getD 8 .u=.i t.f.cur:=by rw [bN 8 hk,ht];rfl
 have e9 : ((ar ts).rows.getD k []).getD 9 .u=.i t.f.prev:=by rw [bN 9 hk,ht];rfl
 have e10 : ((ar ts).rows.getD k []).getD 10 .u=.i t.f.slot:=by rw [bN 10 hk,ht];rfl
 have e11 : ((ar ts).rows.getD k []).getD 11 .u=.i t.f.n:=by rw [bN 11 hk,ht];rfl
 have e12 : ((ar ts).rows.getD k []).getD 12 .u=ba t.f.keys:=by rw [bN 12 hk,ht];rfl
 have e13 : ((ar ts).rows.getD k []).getD 13 .u=.b t.f.done:=by rw [bN 13 hk,ht];rfl
 have e14 : ((ar ts).rows.getD k []).getD 14 .u=.i t.f.e:=by rw [bN 14 hk,ht];rfl
 have e15 : ((ar ts).rows.getD k []).getD 15 .u=jd t.held:=by rw [bN 15 hk,ht,er hto];rfl
 have eo : (jd t.held).isO=true:=rfl
 have es : (jd t.held).shut=aa t.held:=rfl
 unfold jo
 rw [htt]
 unfold t208
 refine af (by simp only [nrm,xdn,reduceIte,Nat.reduceLT,Nat.reduceSub,Nat.reduceAdd];omega) (af (by simp only [nrm,xdn,reduceIte,Nat.reduceLT,Nat.reduceSub,Nat.reduceAdd,cC];omega) (ae (fun h=>?_) (fun h=>?_)))
 ·simp only [nrm,xdn,reduceIte,Nat.reduceLT,Nat.reduceSub,Nat.reduceAdd,Int.toNat_natCast,e0,Bool.not_eq_true'] at h
  rw [if_pos h]
  refine af (by simp only [nrm,xdn,reduceIte,Nat.reduceLT,Nat.reduceSub,Nat.reduceAdd];exact az ts) (ag ?_)
  simp only [nrm,xdn,reduceIte,Nat.reduceLT,Nat.reduceSub,Nat.reduceAdd,Wrd.cds,Mem.cds,lca]
 simp only [nrm,xdn,reduceIte,Nat.reduceLT,Nat.reduceSub,Nat.reduceAdd,Int.toNat_natCast,e0,Bool.not_eq_false'] at h
 rw [if_neg (by rw [h];exact fun x=>Bool.noConfusion x)]
 have hf:=hf h
 refine ae (fun h1=>?_) (fun h1=>?_)
 ·simp only [nrm,xdn,reduceIte,Nat.reduceLT,Nat.reduceSub,Nat.reduceAdd,Int.toNat_natCast,e1] at h1
  rw [if_pos h1]
  refine ah d101 ((bw m t.f).2.cds ++ (bw m t.f).1.cds) rfl (by simp only [nrm,xdn,reduceIte,Nat.reduceLT,Nat.reduceSub,Nat.reduceAdd,Int.toNat_natCast,e1,e2,e3,e4,e5,e6,e7,e8,e9,e10,e11,e12,e13,e14];exact pi101 hm hf h1) (by simp only [nrm,xdn,reduceIte,Nat.reduceLT,Nat.reduceSub,Nat.reduceAdd,Int.toNat_natCast,e1,e2,e3,e4,e5,e6,e7,e8,e9,e10,e11,e12,e13,e14,fn101]) ?_
  generalize bw m t.f=r
  have hB:=lM ht hto (!r.1.done) r.1
  refine ae (fun h2=>?_) (fun h2=>?_)
  ·simp only [nrm,xdn,reduceIte,Nat.reduceLT,Nat.reduceSub,Nat.reduceAdd,Frm.cds,Mem.cds,lca] at h2
   refine ae (fun h3=>?_) (fun h3=>?_)
   ·simp only [nrm,xdn,reduceIte,Nat.reduceLT,Nat.reduceSub,Nat.reduceAdd,Frm.cds,Mem.cds,lca] at h3
    rw [if_pos ⟨h2,h3⟩]
    have hC:=put_C ht hto (!r.1.done) r.1 (t.held ++ [r.1.slot])
    have ha : (aa t.held).rows ++ [[.i r.1.slot]]=(aa (t.held ++ [r.1.slot])).rows:=by simp [aa]
    refine af (by simp only [nrm,xdn,reduceIte,Nat.reduceLT,Nat.reduceSub,Nat.reduceAdd,Int.toNat_natCast,e15,eo]) (af (by simp only [nrm,xdn,reduceIte,Nat.reduceLT,Nat.reduceSub,Nat.reduceAdd,Int.toNat_natCast,e15,es,aj];omega) (af ?_ (ag ?_)))
    ·simp only [nrm,xdn,reduceIte,Nat.reduceLT,Nat.reduceSub,Nat.reduceAdd,Int.toNat_natCast,e15,es,CD.row,CD.aC,av,Frm.cds,Mem.cds,lca,List.headD_cons,ha]
     exact cls hC
    ·simp only [nrm,xdn,reduceIte,Nat.reduceLT,Nat.reduceSub,Nat.reduceAdd,Int.toNat_natCast,e15,es,CD.row,CD.aC,av,Frm.cds,Mem.cds,lca,List.headD_cons,ha,hC,Wrd.cds]
   ·simp only [nrm,xdn,reduceIte,Nat.reduceLT,Nat.reduceSub,Nat.reduceAdd,Frm.cds,Mem.cds,lca] at h3
    rw [if_neg (fun x=>h3 x.2)]
    refine af ?_ (ag ?_)
    ·simp only [nrm,xdn,reduceIte,Nat.reduceLT,Nat.reduceSub,Nat.reduceAdd,Int.toNat_natCast,CD.aC,av,Frm.cds,Mem.cds,lca]
     exact cls hB
    ·simp only [nrm,xdn,reduceIte,Nat.reduceLT,Nat.reduceSub,Nat.reduceAdd,Int.toNat_natCast,CD.aC,av,Frm.cds,hB,Wrd.cds,Wrd.gone,Mem.cds,lca]
  ·simp only [nrm,xdn,reduceIte,Nat.reduceLT,Nat.reduceSub,Nat.reduceAdd,Frm.cds,Mem.cds,lca] at h2
   rw [if_neg (fun x=>by rw [h2] at x;exact Bool.noConfusion x.1)]
   refine af ?_ (ag ?_)
   ·simp only [nrm,xdn,reduceIte,Nat.reduceLT,Nat.reduceSub,Nat.reduceAdd,Int.toNat_natCast,CD.aC,av,Frm.cds,Mem.cds,lca]
    exact cls hB
   ·simp only [nrm,xdn,reduceIte,Nat.reduceLT,Nat.reduceSub,Nat.reduceAdd,Int.toNat_natCast,CD.aC,av,Frm.cds,hB,Wrd.cds,Wrd.gone,Mem.cds,lca]
 simp only [nrm,xdn,reduceIte,Nat.reduceLT,Nat.reduceSub,Nat.reduceAdd,Int.toNat_natCast,e1] at h1
 rw [if_neg h1]
 refine ae (fun h2=>?_) (fun h2=>?_)
 ·simp only [nrm,xdn,reduceIte,Nat.reduceLT,Nat.reduceSub,Nat.reduceAdd,Int.toNat_natCast,e1] at h2
  rw [if_pos h2]
  refine ah d107 ((cx m t.f k).2.cds ++ (cx m t.f k).1.cds) rfl (by simp only [nrm,xdn,reduceIte,Nat.reduceLT,Nat.reduceSub,Nat.reduceAdd,Int.toNat_natCast,e1,e2,e3,e4,e5,e6,e7,e8,e9,e10,e11,e12,e13,e14];exact pi107 hm hf h2 k) (by simp only [nrm,xdn,reduceIte,Nat.reduceLT,Nat.reduceSub,Nat.reduceAdd,Int.toNat_natCast,e1,e2,e3,e4,e5,e6,e7,e8,e9,e10,e11,e12,e13,e14,fn107]) ?_
  generalize cx m t.f k=r
  have hB:=lM ht hto (!r.1.done) r.1
  refine af ?_ (ag ?_)
  ·simp only [nrm,xdn,reduceIte,Nat.reduceLT,Nat.reduceSub,Nat.reduceAdd,Int.toNat_natCast,CD.aC,av,Frm.cds,Mem.cds,lca]
   exact cls hB
  ·simp only [nrm,xdn,reduceIte,Nat.reduceLT,Nat.reduceSub,Nat.reduceAdd,Int.toNat_natCast,CD.aC,av,Frm.cds,hB,Wrd.cds,Wrd.gone,Mem.cds,lca]
 simp only [nrm,xdn,reduceIte,Nat.reduceLT,Nat.reduceSub,Nat.reduceAdd,Int.toNat_natCast,e1] at h2
 rw [if_neg h2]
 refine ae (fun h3=>?_) (fun h3=>?_)
 ·simp only [nrm,xdn,reduceIte,Nat.reduceLT,Nat.reduceSub,Nat.reduceAdd,Int.toNat_natCast,e1] at h3
  rw [if_pos h3]
  refine ah d104 ((bS m t.f k).2.cds ++ (bS m t.f k).1.cds) rfl (by simp only [nrm,xdn,reduceIte,Nat.reduceLT,Nat.reduceSub,Nat.reduceAdd,Int.toNat_natCast,e1,e2,e3,e4,e5,e6,e7,e8,e9,e10,e11,e12,e13,e14];exact pi104 hm hf h3 k) (by simp only [nrm,xdn,reduceIte,Nat.reduceLT,Nat.reduceSub,Nat.reduceAdd,Int.toNat_natCast,e1,e2,e3,e4,e5,e6,e7,e8,e9,e10,e11,e12,e13,e14,fn104]) ?_
  generalize bS m t.f k=r
  have hB:=lM ht hto (!r.1.done) r.1
  refine af ?_ (ag ?_)
  ·simp only [nrm,xdn,reduceIte,Nat.reduceLT,Nat.reduceSub,Nat.reduceAdd,Int.toNat_natCast,CD.aC,av,Frm.cds,Mem.cds,lca]
   exact cls hB
  ·simp only [nrm,xdn,reduceIte,Nat.reduceLT,Nat.reduceSub,Nat.reduceAdd,Int.toNat_natCast,CD.aC,av,Frm.cds,hB,Wrd.cds,Wrd.gone,Mem.cds,lca]
 simp only [nrm,xdn,reduceIte,Nat.reduceLT,Nat.reduceSub,Nat.reduceAdd,Int.toNat_natCast,e1] at h3
 rw [if_neg h3]
 refine ae (fun h4=>?_) (fun h4=>?_)
 ·simp only [nrm,xdn,reduceIte,Nat.reduceLT,Nat.reduceSub,Nat.reduceAdd,Int.toNat_natCast,e1] at h4
  rw [if_pos (.inl h4)]
  refine ah d110 ((bB m t.f k).2.cds ++ (bB m t.f k).1.cds) rfl (by simp only [nrm,xdn,reduceIte,Nat.reduceLT,Nat.reduceSub,Nat.reduceAdd,Int.toNat_natCast,e1,e2,e3,e4,e5,e6,e7,e8,e9,e10,e11,e12,e13,e14];exact pi110 hm hf (.inl h4) k) (by simp only [nrm,xdn,reduceIte,Nat.reduceLT,Nat.reduceSub,Nat.reduceAdd,Int.toNat_natCast,e1,e2,e3,e4,e5,e6,e7,e8,e9,e10,e11,e12,e13,e14,fn110]) ?_
  generalize bB m t.f k=r
  have hB:=lM ht hto (!r.1.done) r.1
  refine af ?_ (ag ?_)
  ·simp only [nrm,xdn,reduceIte,Nat.reduceLT,Nat.reduceSub,Nat.reduceAdd,Int.toNat_natCast,CD.aC,av,Frm.cds,Mem.cds,lca]
   exact cls hB
  ·simp only [nrm,xdn,reduceIte,Nat.reduceLT,Nat.reduceSub,Nat.reduceAdd,Int.toNat_natCast,CD.aC,av,Frm.cds,hB,Wrd.cds,Wrd.gone,Mem.cds,lca]
 simp only [nrm,xdn,reduceIte,Nat.reduceLT,Nat.reduceSub,Nat.reduceAdd,Int.toNat_natCast,e1] at h4
 refine ae (fun h5=>?_) (fun h5=>?_)
 ·simp only [nrm,xdn,reduceIte,Nat.reduceLT,Nat.reduceSub,Nat.reduceAdd,Int.toNat_natCast,e1] at h5
  rw [if_pos (.inr h5)]
  refine ah d110 ((bB m t.f k).2.cds ++ (bB m t.f k).1.cds) rfl (by simp only [nrm,xdn,reduceIte,Nat.reduceLT,Nat.reduceSub,Nat.reduceAdd,Int.toNat_natCast,e1,e2,e3,e4,e5,e6,e7,e8,e9,e10,e11,e12,e13,e14];exact pi110 hm hf (.inr h5) k) (by simp only [nrm,xdn,reduceIte,Nat.reduceLT,Nat.reduceSub,Nat.reduceAdd,Int.toNat_natCast,e1,e2,e3,e4,e5,e6,e7,e8,e9,e10,e11,e12,e13,e14,fn110]) ?_
  generalize bB m t.f k=r
  have hB:=lM ht hto (!r.1.done) r.1
  refine af ?_ (ag ?_)
  ·simp only [nrm,xdn,reduceIte,Nat.reduceLT,Nat.reduceSub,Nat.reduceAdd,Int.toNat_natCast,CD.aC,av,Frm.cds,Mem.cds,lca]
   exact cls hB
  ·simp only [nrm,xdn,reduceIte,Nat.reduceLT,Nat.reduceSub,Nat.reduceAdd,Int.toNat_natCast,CD.aC,av,Frm.cds,hB,Wrd.cds,Wrd.gone,Mem.cds,lca]
 simp only [nrm,xdn,reduceIte,Nat.reduceLT,Nat.reduceSub,Nat.reduceAdd,Int.toNat_natCast,e1] at h5
 rw [if_neg (fun x=>x.elim h4 h5)]
 have h6 : t.f.c.kind=6:=by
  have:=hf.call
  unfold bg at this
  rw [if_neg (by omega),if_neg (by omega),if_neg (by omega)] at this
  split at this
  ·assumption
  ·cases this
 refine ae (fun _=>?_) (fun h7=>?_)
 ·have hs : 0≤t.f.c.slot∧t.f.c.slot < m.slots.length:=by
   have:=hf.call
   unfold bg at this
   rw [if_neg (by omega),if_neg (by omega),if_neg (by omega),if_pos h6] at this
   split at this
   ·cases this
   ·omega
  refine af (by simp only [nrm,xdn,reduceIte,Nat.reduceLT,Nat.reduceSub,Nat.reduceAdd,Int.toNat_natCast,e15,eo]) (ah d179 [.i (indexOf t.f.c.slot t.held 0)] rfl trivial (by simp only [nrm,xdn,reduceIte,Nat.reduceLT,Nat.reduceSub,Nat.reduceAdd,Int.toNat_natCast,e15,es,e6,d179,bz]) (ae (fun h8=>?_) (fun h8=>?_)))
  ·simp only [nrm,xdn,reduceIte,Nat.reduceLT,Nat.reduceSub,Nat.reduceAdd] at h8
   rw [if_pos h8]
   have hu:=pf t.f.c.slot t.held 0
   have hr:=hm.refs hs.1 hs.2
   have hnf:=hm.nf
   refine ah d167 (put m t.f.c.slot).cds rfl (by simp only [nrm,xdn,reduceIte,Nat.reduceLT,Nat.reduceSub,Nat.reduceAdd,Int.toNat_natCast,e6,d167,mem_of,aq];exact ⟨hs.1,hs.2,hr.1,hr.2,by omega⟩) (by simp only [nrm,xdn,reduceIte,Nat.reduceLT,Nat.reduceSub,Nat.reduceAdd,Int.toNat_natCast,e6,d167,mem_of,aq]) ?_
   generalize put m t.f.c.slot=q
   refine aH (by simp only [nrm,xdn,reduceIte,Nat.reduceLT,Nat.reduceSub,Nat.reduceAdd,Mem.cds];omega) (ah d215 [aa (t.held.take (indexOf t.f.c.slot t.held 0).toNat ++ t.held.drop (indexOf t.f.c.slot t.held 0 + 1).toNat)] rfl ?_ ?_ ?_)
   ·simp only [nrm,xdn,reduceIte,Nat.reduceLT,Nat.reduceSub,Nat.reduceAdd,Mem.cds,Int.toNat_natCast,e15,es,d215,bz,lca];omega
   ·simp only [nrm,xdn,reduceIte,Nat.reduceLT,Nat.reduceSub,Nat.reduceAdd,Mem.cds,Int.toNat_natCast,e15,es,d215,bz,lca]
   generalize t.held.take (indexOf t.f.c.slot t.held 0).toNat ++ t.held.drop (indexOf t.f.c.slot t.held 0 + 1).toNat=l
   refine ah d44 (aF t.f 0).cds rfl trivial (by simp only [nrm,xdn,reduceIte,Nat.reduceLT,Nat.reduceSub,Nat.reduceAdd,Mem.cds,Int.toNat_natCast,e1,e2,e3,e4,e5,e6,e7,e8,e9,e10,e11,e12,e13,e14,d44,bQ]) ?_
   generalize aF t.f 0=F
   have hB:=put_D ht hto (!F.done) F l
   refine af ?_ (ag ?_)
   ·simp only [nrm,xdn,reduceIte,Nat.reduceLT,Nat.reduceSub,Nat.reduceAdd,Int.toNat_natCast,CD.aC,av,Frm.cds,Mem.cds,lca]
    exact cls hB
   ·simp only [nrm,xdn,reduceIte,Nat.reduceLT,Nat.reduceSub,Nat.reduceAdd,Int.toNat_natCast,CD.aC,av,Frm.cds,hB,Wrd.cds,Wrd.gone,Mem.cds,lca]
  ·simp only [nrm,xdn,reduceIte,Nat.reduceLT,Nat.reduceSub,Nat.reduceAdd] at h8
   rw [if_neg h8]
   refine ah d44 (aF t.f 0).cds rfl trivial (by simp only [nrm,xdn,reduceIte,Nat.reduceLT,Nat.reduceSub,Nat.reduceAdd,Int.toNat_natCast,e1,e2,e3,e4,e5,e6,e7,e8,e9,e10,e11,e12,e13,e14,d44,bQ]) ?_
   generalize aF t.f 0=F
   have hB : CD.l _=ar (ts.modify k fun t=>{ t with busy:=!F.done,f:=F}):=put_A2 ht hto (!F.done) F
   refine af ?_ (ag ?_)
   ·simp only [nrm,xdn,reduceIte,Nat.reduceLT,Nat.reduceSub,Nat.reduceAdd,Int.toNat_natCast,e15,es,CD.aC,av,Frm.cds,Mem.cds,lca]
    exact cls hB
   ·simp only [nrm,xdn,reduceIte,Nat.reduceLT,Nat.reduceSub,Nat.reduceAdd,Int.toNat_natCast,e15,es,CD.aC,av,Frm.cds,hB,Wrd.cds,Wrd.gone,Mem.cds,lca]
 ·simp only [nrm,xdn,reduceIte,Nat.reduceLT,Nat.reduceSub,Nat.reduceAdd,Int.toNat_natCast,e1] at h7
  exact absurd h6 h7
end Go.Proofs.Ytpmamacjepcdmaa

namespace Go.Proofs.Ytpmamacjepcdmaa
open Go Go.Sy Go.RowKit
set_option linter.unusedSimpArgs false
set_option linter.unusedVariables false
theorem vA {l : List Int} {j : Nat} (h : j < l.length) : l.take (j + 1)=l.take j ++ [l.getD j 0]:=by
 rw [List.take_succ_eq_append_getElem h,List.getD_eq_getElem?_getD,List.getElem?_eq_getElem h,Option.getD_some]
def s71 : Sig:=⟨[.agg [.fz kS,.fz kI,.fz kI,.fz kI,.int .i64]],[.one (.own 78 kW),.one (.int .i64)]⟩
def d71 : DC:=⟨s71,fun _=>True,fun l=>[fK (iV (Mem.of l)).1,.i (iV (Mem.of l)).2]⟩
theorem fn71 (m : Mem) : d71.fn [ai m.slots,aa m.heads,aa m.free,aa m.locks,.i m.now]=[fK (iV m).1,.i (iV m).2]:=by simp only [d71,mem_of,aq]
def l71 : List (Nat × Ct):=[(74,d74.ct),(168,d168.ct)]
def z71 : Cx:={ T:=ttA,C:=sigs l71,F:=[],hints:=[⟨71,6,false,[(19,.lt),(5,.own 78 kW)],[],[],[],0⟩,⟨71,10,false,[(30,.lt),(5,.own 78 kW)],[],[],[],0⟩],sig:=s71}
def t71 : Tree :=
 (.call 74 [.var 0,.var 1,.var 2,.var 3,.var 4] 5
 (.ite (.not (.eq (.var 5) (.int 0)))
 (.ret [.nil,.var 5])
 (.loop 6 [.sl 32 [.int .i64,.int .i64,.int .i64,.int .i64],.int .i64] [.nil,.int 0]
 (.ite (.lt (.var 8) (.len (.var 1)))
 (.call 168 [.var 0,.var 1,.var 2,.var 3,.var 4,.var 8] 9
 (.loop 11 [.sl 32 [.int .i64,.int .i64,.int .i64,.int .i64],.int .i64] [.var 7,.int 0]
 (.ite (.lt (.var 13) (.len (.var 9)))
 (.need (.le (.int 0) (.var 13))
 (.need (.le (.int 0) (.cell (.var 9) (.var 13) 0))
 (.need (.lt (.cell (.var 9) (.var 13) 0) (.len (.var 0)))
 (.need (.le (.add (.len (.var 12)) (.int 1)) (.int 4398046511104))
 (.need (.fit (.add (.var 13) (.int 1)))
 (.back 11 [.app (.var 12) (.cons (.cell (.var 0) (.cell (.var 9) (.var 13) 0) 1) (.cons (.cell (.var 0) (.cell (.var 9) (.var 13) 0) 2) (.cons (.cell (.var 9) (.var 13) 0) (.cons (.cell (.var 0) (.cell (.var 9) (.var 13) 0) 3) .row0)))),.add (.var 13) (.int 1)]))))))
 (.need (.fit (.add (.var 8) (.int 1)))
 (.back 6 [.var 12,.add (.var 8) (.int 1)])))))
 (.ret [.var 7,.int 0])))))
theorem run71 : run z71 6000 [.code (Try.f71.body.getD .skip),.fin (aP z71 Try.f71.results.toList 50)] { fn:=71,tmps:=z71.sig.aE ++ List.replicate (Try.f71.ntmps - z71.sig.aE.length) (.v (.one .undef)),stk:=[],h:=z71.sig.h0,nx:=z71.sig.ins.length,known:=[]}=t71:=by kernel_rfl
theorem ok71 : bJ Try.prog 71 d71.ct:=by
 refine ax (d:=d71) (Z:=z71) (Γ:=gam l71) (fn:=Try.f71) (c:=Try.f71.body.getD .skip) (aJ tok mixed (all_cons ok74 (all_cons ok168 all_nil)) aK) Try.func71 (by kernel_rfl) (by kernel_rfl) rfl run71 fun E hk hp=>?_
 obtain ⟨hk0,hk1,hk2,hk3,hk4,_⟩:=hk
 obtain ⟨m,e0,e1,e2,e3,e4,b0,b1,b2,b3⟩:=bp (d0:=E 0) (d1:=E 1) (d2:=E 2) (d3:=E 3) (d4:=E 4) hk0 hk1 hk2 hk3 hk4
 have el : aG E d71.sig.ins.length=[ai m.slots,aa m.heads,aa m.free,aa m.locks,.i m.now]:=by
  show [E 0,E 1,E 2,E 3,E 4]=_
  rw [e0,e1,e2,e3,e4]
 rw [el] at hp
 rw [el]
 rw [Env.aU el]
 clear el e0 e1 e2 e3 e4
 rw [fn71]
 unfold iV
 unfold t71
 refine ah d74 [.i (cp m)] rfl trivial (by simp only [nrm,xdn,reduceIte,Nat.reduceLT,Nat.reduceSub,Nat.reduceAdd,fn74]) (ae (fun h=>ag ?_) (fun h=>?_))
 ·simp only [nrm,xdn,reduceIte,Nat.reduceLT,Nat.reduceSub,Nat.reduceAdd,Bool.not_eq_true'] at h ⊢
  rw [if_pos h];rfl
 simp only [nrm,xdn,reduceIte,Nat.reduceLT,Nat.reduceSub,Nat.reduceAdd,Bool.not_eq_false'] at h
 rw [if_neg (by omega)]
 have hm:=nO (by omega : cp m=0)
 have hns:=hm.ns
 have hnh:=hm.nh4
 refine bD (fun ds=>∃ (b : Nat) (acc : List iq),ds=[fK acc,.i b]∧b≤m.heads.length∧acc.length≤b * 12∧u7 m=kl m (m.heads.length - b) b acc) (fun ds=>m.heads.length - (ds.getD 1 .u).int.toNat) ⟨0,[],rfl,by omega,by simp,rfl⟩ ?_
 rintro ds - ⟨b,acc,rfl,hb,hkl,ht⟩
 refine ae (fun hlt=>?_) (fun hge=>ag ?_)
 ·simp only [nrm,xdn,reduceIte,Nat.reduceLT,Nat.reduceSub,Nat.reduceAdd,aj] at hlt
  have e1 : m.heads.length - b=m.heads.length - (b + 1) + 1:=by omega
  rw [e1] at ht
  refine ah d168 [aa (cw m b).1,.i (cw m b).2] rfl ?_ (by simp only [nrm,xdn,reduceIte,Nat.reduceLT,Nat.reduceSub,Nat.reduceAdd,fn168]) ?_
  ·simp only [nrm,xdn,reduceIte,Nat.reduceLT,Nat.reduceSub,Nat.reduceAdd]
   exact pre168 hm (by omega) (by omega)
  obtain ⟨hl,hlm⟩:=um hm b
  rw [kl] at ht
  generalize (cw m b).1=l at *
  refine bD (fun ds=>∃ (j : Nat) (acc' : List iq),ds=[fK acc',.i j]∧j≤l.length∧acc'=acc ++ (l.take j).map (rh m)) (fun ds=>l.length - (ds.getD 1 .u).int.toNat) ⟨0,acc,?_,by omega,by simp⟩ ?_
  ·simp only [nrm,xdn,reduceIte,Nat.reduceLT,Nat.reduceSub,Nat.reduceAdd];rfl
  rintro ds - ⟨j,acc',rfl,hj,hs⟩
  have hal : acc'.length=acc.length + j:=by rw [hs];simp;omega
  refine ae (fun hlt'=>?_) (fun hge'=>?_)
  ·simp only [nrm,xdn,reduceIte,Nat.reduceLT,Nat.reduceSub,Nat.reduceAdd,aj] at hlt'
   have ha:=hlm (l.getD j 0) (mc (by omega))
   have hraw : ((aa l).rows.getD j []).getD 0 .u=.i (l.getD j 0):=cL (by omega)
   have hnx : acc ++ (l.take (j + 1)).map (rh m)=acc' ++ [rh m (l.getD j 0)]:=by
    rw [vA (by omega),hs,List.map_append,← List.append_assoc];rfl
   generalize hag : l.getD j 0=a at *
   have hk1 : ((ai m.slots).rows.getD a.toNat []).getD 1 .u=.i (msl m a.toNat).k.a:=gl (by omega)
   have hk2 : ((ai m.slots).rows.getD a.toNat []).getD 2 .u=.i (msl m a.toNat).k.b:=gk (by omega)
   have hk3 : ((ai m.slots).rows.getD a.toNat []).getD 3 .u=.i (msl m a.toNat).till:=wZ (by omega)
   refine af (by simp only [nrm,xdn,reduceIte,Nat.reduceLT,Nat.reduceSub,Nat.reduceAdd];omega) (af (by simp only [nrm,xdn,reduceIte,Nat.reduceLT,Nat.reduceSub,Nat.reduceAdd,Int.toNat_natCast,hraw];omega) (af (by simp only [nrm,xdn,reduceIte,Nat.reduceLT,Nat.reduceSub,Nat.reduceAdd,Int.toNat_natCast,hraw,aw];omega) (cm (by simp only [nrm,xdn,reduceIte,Nat.reduceLT,Nat.reduceSub,Nat.reduceAdd,mJ];omega) (aH (by simp only [nrm,xdn,reduceIte,Nat.reduceLT,Nat.reduceSub,Nat.reduceAdd];omega) (bx ⟨⟨j + 1,_,?_,by omega,hnx.symm⟩,?_⟩)))))
   ·simp only [nrm,xdn,reduceIte,Nat.reduceLT,Nat.reduceSub,Nat.reduceAdd,Int.toNat_natCast,hraw,hk1,hk2,hk3,CD.row,List.headD_cons,xZ]
    rfl
   ·simp only [nrm,xdn,reduceIte,Nat.reduceLT,Nat.reduceSub,Nat.reduceAdd];omega
  ·simp only [nrm,xdn,reduceIte,Nat.reduceLT,Nat.reduceSub,Nat.reduceAdd,aj] at hge'
   have hjl : j=l.length:=by omega
   subst hjl
   rw [List.take_length] at hs
   refine aH (by simp only [nrm,xdn,reduceIte,Nat.reduceLT,Nat.reduceSub,Nat.reduceAdd];omega) (gf (by decide) ⟨⟨b + 1,acc',?_,by omega,by omega,?_⟩,?_⟩)
   ·simp only [nrm,xdn,reduceIte,Nat.reduceLT,Nat.reduceSub,Nat.reduceAdd];rfl
   ·rw [ht,hs]
   ·simp only [nrm,xdn,reduceIte,Nat.reduceLT,Nat.reduceSub,Nat.reduceAdd];omega
 ·simp only [nrm,xdn,reduceIte,Nat.reduceLT,Nat.reduceSub,Nat.reduceAdd,aj] at hge ⊢
  rw [show m.heads.length - b=0 from by omega] at ht
  rw [ht];rfl
def s76 : Sig:=⟨[.agg [.fz kS,.fz kI,.fz kI,.fz kI,.int .i64]],[.one (.own 78 kW)]⟩
def d76 : DC:=⟨s76,fun l=>cp (Mem.of l)=0,fun l=>[fK (u7 (Mem.of l))]⟩
theorem fn76 (m : Mem) : d76.fn [ai m.slots,aa m.heads,aa m.free,aa m.locks,.i m.now]=[fK (u7 m)]:=by simp only [d76,mem_of,aq]
def l76 : List (Nat × Ct):=[(77,d77.ct)]
def z76 : Cx:={ T:=ttA,C:=sigs l76,F:=[],hints:=[⟨76,3,false,[(12,.lt),(3,.own 78 kW)],[],[],[],0⟩,⟨76,7,false,[(23,.lt),(3,.own 78 kW)],[],[],[],0⟩],sig:=s76}
def t76 : Tree :=
 (.loop 5 [.sl 32 [.int .i64,.int .i64,.int .i64,.int .i64],.int .i64] [.nil,.int 0]
 (.ite (.lt (.var 7) (.len (.var 1)))
 (.call 77 [.var 0,.var 1,.var 2,.var 3,.var 4,.var 7] 8
 (.loop 10 [.sl 32 [.int .i64,.int .i64,.int .i64,.int .i64],.int .i64] [.var 6,.int 0]
 (.ite (.lt (.var 12) (.len (.var 8)))
 (.need (.le (.int 0) (.var 12))
 (.need (.le (.int 0) (.cell (.var 8) (.var 12) 0))
 (.need (.lt (.cell (.var 8) (.var 12) 0) (.len (.var 0)))
 (.need (.le (.add (.len (.var 11)) (.int 1)) (.int 4398046511104))
 (.need (.fit (.add (.var 12) (.int 1)))
 (.back 10 [.app (.var 11) (.cons (.cell (.var 0) (.cell (.var 8) (.var 12) 0) 1) (.cons (.cell (.var 0) (.cell (.var 8) (.var 12) 0) 2) (.cons (.cell (.var 8) (.var 12) 0) (.cons (.cell (.var 0) (.cell (.var 8) (.var 12) 0) 3) .row0)))),.add (.var 12) (.int 1)]))))))
 (.need (.fit (.add (.var 7) (.int 1)))
 (.back 5 [.var 11,.add (.var 7) (.int 1)])))))
 (.ret [.var 6])))
theorem run76 : run z76 6000 [.code (Try.f76.body.getD .skip),.fin (aP z76 Try.f76.results.toList 50)] { fn:=76,tmps:=z76.sig.aE ++ List.replicate (Try.f76.ntmps - z76.sig.aE.length) (.v (.one .undef)),stk:=[],h:=z76.sig.h0,nx:=z76.sig.ins.length,known:=[]}=t76:=by kernel_rfl
theorem ok76 : bJ Try.prog 76 d76.ct:=by
 refine ax (d:=d76) (Z:=z76) (Γ:=gam l76) (fn:=Try.f76) (c:=Try.f76.body.getD .skip) (aJ tok mixed (all_cons ok77 all_nil) aK) Try.func76 (by kernel_rfl) (by kernel_rfl) rfl run76 fun E hk hp=>?_
 obtain ⟨hk0,hk1,hk2,hk3,hk4,_⟩:=hk
 obtain ⟨m,e0,e1,e2,e3,e4,b0,b1,b2,b3⟩:=bp (d0:=E 0) (d1:=E 1) (d2:=E 2) (d3:=E 3) (d4:=E 4) hk0 hk1 hk2 hk3 hk4
 have el : aG E d76.sig.ins.length=[ai m.slots,aa m.heads,aa m.free,aa m.locks,.i m.now]:=by
  show [E 0,E 1,E 2,E 3,E 4]=_
  rw [e0,e1,e2,e3,e4]
 rw [el] at hp
 rw [el]
 rw [Env.aU el]
 clear el e0 e1 e2 e3 e4
 rw [fn76]
 simp only [d76,mem_of,aq] at hp
 unfold t76
 have hm:=nO hp
 have hns:=hm.ns
 have hnh:=hm.nh4
 refine bD (fun ds=>∃ (b : Nat) (acc : List iq),ds=[fK acc,.i b]∧b≤m.heads.length∧acc.length≤b * 12∧u7 m=kl m (m.heads.length - b) b acc) (fun ds=>m.heads.length - (ds.getD 1 .u).int.toNat) ⟨0,[],rfl,by omega,by simp,rfl⟩ ?_
 rintro ds - ⟨b,acc,rfl,hb,hkl,ht⟩
 refine ae (fun hlt=>?_) (fun hge=>ag ?_)
 ·simp only [nrm,xdn,reduceIte,Nat.reduceLT,Nat.reduceSub,Nat.reduceAdd,aj] at hlt
  have e1 : m.heads.length - b=m.heads.length - (b + 1) + 1:=by omega
  rw [e1] at ht
  obtain ⟨l,hc⟩:=zR hp (b:=b) (by omega)
  obtain ⟨q1,q2⟩:=Ag hc
  refine ah d77 [aa l,.b true] rfl ?_ (by simp only [nrm,xdn,reduceIte,Nat.reduceLT,Nat.reduceSub,Nat.reduceAdd,fn77,q1]) ?_
  ·simp only [nrm,xdn,reduceIte,Nat.reduceLT,Nat.reduceSub,Nat.reduceAdd]
   exact pre77 hm (by omega) (by omega)
  obtain ⟨hl,hlm⟩:=ny hm hc
  rw [kl,q2] at ht
  dsimp only at ht
  refine bD (fun ds=>∃ (j : Nat) (acc' : List iq),ds=[fK acc',.i j]∧j≤l.length∧acc'=acc ++ (l.take j).map (rh m)) (fun ds=>l.length - (ds.getD 1 .u).int.toNat) ⟨0,acc,?_,by omega,by simp⟩ ?_
  ·simp only [nrm,xdn,reduceIte,Nat.reduceLT,Nat.reduceSub,Nat.reduceAdd];rfl
  rintro ds - ⟨j,acc',rfl,hj,hs⟩
  have hal : acc'.length=acc.length + j:=by rw [hs];simp;omega
  refine ae (fun hlt'=>?_) (fun hge'=>?_)
  ·simp only [nrm,xdn,reduceIte,Nat.reduceLT,Nat.reduceSub,Nat.reduceAdd,aj] at hlt'
   have ha:=hlm (l.getD j 0) (mc (by omega))
   have hraw : ((aa l).rows.getD j []).getD 0 .u=.i (l.getD j 0):=cL (by omega)
   have hnx : acc ++ (l.take (j + 1)).map (rh m)=acc' ++ [rh m (l.getD j 0)]:=by
    rw [vA (by omega),hs,List.map_append,← List.append_assoc];rfl
   generalize hag : l.getD j 0=a at *
   have hk1 : ((ai m.slots).rows.getD a.toNat []).getD 1 .u=.i (msl m a.toNat).k.a:=gl (by omega)
   have hk2 : ((ai m.slots).rows.getD a.toNat []).getD 2 .u=.i (msl m a.toNat).k.b:=gk (by omega)
   have hk3 : ((ai m.slots).rows.getD a.toNat []).getD 3 .u=.i (msl m a.toNat).till:=wZ (by omega)
   refine af (by simp only [nrm,xdn,reduceIte,Nat.reduceLT,Nat.reduceSub,Nat.reduceAdd];omega) (af (by simp only [nrm,xdn,reduceIte,Nat.reduceLT,Nat.reduceSub,Nat.reduceAdd,Int.toNat_natCast,hraw];omega) (af (by simp only [nrm,xdn,reduceIte,Nat.reduceLT,Nat.reduceSub,Nat.reduceAdd,Int.toNat_natCast,hraw,aw];omega) (cm (by simp only [nrm,xdn,reduceIte,Nat.reduceLT,Nat.reduceSub,Nat.reduceAdd,mJ];omega) (aH (by simp only [nrm,xdn,reduceIte,Nat.reduceLT,Nat.reduceSub,Nat.reduceAdd];omega) (bx ⟨⟨j + 1,_,?_,by omega,hnx.symm⟩,?_⟩)))))
   ·simp only [nrm,xdn,reduceIte,Nat.reduceLT,Nat.reduceSub,Nat.reduceAdd,Int.toNat_natCast,hraw,hk1,hk2,hk3,CD.row,List.headD_cons,xZ]
    rfl
   ·simp only [nrm,xdn,reduceIte,Nat.reduceLT,Nat.reduceSub,Nat.reduceAdd];omega
  ·simp only [nrm,xdn,reduceIte,Nat.reduceLT,Nat.reduceSub,Nat.reduceAdd,aj] at hge'
   have hjl : j=l.length:=by omega
   subst hjl
   rw [List.take_length] at hs
   refine aH (by simp only [nrm,xdn,reduceIte,Nat.reduceLT,Nat.reduceSub,Nat.reduceAdd];omega) (gf (by decide) ⟨⟨b + 1,acc',?_,by omega,by omega,?_⟩,?_⟩)
   ·simp only [nrm,xdn,reduceIte,Nat.reduceLT,Nat.reduceSub,Nat.reduceAdd];rfl
   ·rw [ht,hs]
   ·simp only [nrm,xdn,reduceIte,Nat.reduceLT,Nat.reduceSub,Nat.reduceAdd];omega
 ·simp only [nrm,xdn,reduceIte,Nat.reduceLT,Nat.reduceSub,Nat.reduceAdd,aj] at hge ⊢
  rw [show m.heads.length - b=0 from by omega] at ht
  rw [ht];rfl
def hM0 : Mem:=⟨[default,default],[-1,-2],[1,0],[-1,-1],0⟩
def hM1 : Mem:=⟨[⟨1,⟨1,2⟩,5,false,0⟩,default],[-1,-2],[1],[-1,-1],0⟩
def hM2 : Mem:=⟨[⟨1,⟨1,2⟩,5,true,-2⟩,default],[-1,1],[1],[-1,-1],0⟩
def hM3 : Mem:=⟨[⟨1,⟨1,2⟩,5,true,-2⟩,default],[-1,-2],[1],[-1,-1],0⟩
theorem h0 : bZ 2 2=(hM0,0):=by decide +kernel
theorem h1 : taken hM0 ⟨1,2⟩ 5=(hM1,0,0):=by decide +kernel
theorem h2 : linked hM1 0=(hM2,0):=by decide +kernel
theorem h3 : iV hM2=([⟨⟨1,2⟩,0,5⟩],0):=by decide +kernel
theorem h4 : yv hM2 ⟨1,2⟩=(hM3,0,0):=by decide +kernel
theorem h5 : slotsOf hM3 1=([],0):=by decide +kernel
end Go.Proofs.Ytpmamacjepcdmaa
