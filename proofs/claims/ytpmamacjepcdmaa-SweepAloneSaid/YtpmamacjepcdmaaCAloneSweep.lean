import Derived.Test.YtpmamacjepcdmaaCAloneDrop
namespace Go.Proofs.Ytpmamacjepcdmaa
open Go Go.Sy Go.RowKit
set_option linter.unusedSimpArgs false
set_option linter.unusedVariables false
def swF (kd : Int) (b : Int) (pc cur prev slot n : Int) (ks : List Key) : Frm:=⟨⟨kd,⟨0,0⟩,0,b,0⟩,pc,cur,prev,slot,n,ks,false,0⟩
def swS (m : Mem) (f : Frm) : Frm × Mem:=aB m f 0
section
variable {m : Mem} {kd b pc c p s n a : Int} {ks : List Key}
theorem Aq (h : kd=4∨kd=5) : aa m (swF kd b pc c p s n ks).c=b:=by
 unfold aa
 rw [if_pos (show (swF kd b pc c p s n ks).c.kind=4∨(swF kd b pc c p s n ks).c.kind=5 from h)];rfl
theorem An (hk : kd=4∨kd=5) (h : m.locks.getD b.toNat 0=-1) : swS m (swF kd b 0 c p s n ks)=(swF kd b 1 c p s n ks,{ m with locks:=m.locks.set b.toNat 0}):=by
 have hl : lock m b 0=({ m with locks:=m.locks.set b.toNat 0},true):=by unfold lock;rw [if_pos h]
 unfold swS aB
 rw [if_pos (show (swF _ _ 0 _ _ _ _ _).pc=0 from rfl),Aq hk,hl];rfl
theorem wV (hk : kd=4∨kd=5) : swS m (swF kd b 1 c p s n ks)=(swF kd b 2 (aO m b) 0 s n ks,m):=by
 unfold swS aB
 rw [if_neg (by simp [swF]),if_pos (show (swF _ _ 1 _ _ _ _ _).pc=1 from rfl),Aq hk];rfl
theorem CL (h : c≤0) : swS m (swF kd b 2 c p s n ks)=(swF kd b 6 c p s n ks,m):=by
 unfold swS aB
 rw [if_neg (by simp [swF]),if_neg (by simp [swF]),if_pos ⟨rfl,h⟩];rfl
theorem sC (pc : Int) : at1 m (swF kd b pc (a + 1) p s n ks)=msl m a.toNat:=by unfold at1 swF;rw [show a + 1 - 1=a from by omega]
theorem ED (h : 0≤a) (ht : m.now < (msl m a.toNat).till) : swS m (swF 4 b 2 (a + 1) p s n ks)=(swF 4 b 3 (a + 1) p s n ks,m):=by
 unfold swS aB
 rw [if_neg (by simp [swF]),if_neg (by simp [swF]),if_neg (by simp only [swF];omega),if_neg (by simp [swF]),if_pos (show (swF _ _ 2 _ _ _ _ _).pc=2 from rfl),sC,if_neg (by omega)];rfl
theorem EC (h : 0≤a) (ht : (msl m a.toNat).till≤m.now) : swS m (swF 4 b 2 (a + 1) p s n ks)=(swF 4 b 4 (a + 1) p s n ks,m):=by
 unfold swS aB
 rw [if_neg (by simp [swF]),if_neg (by simp [swF]),if_neg (by simp only [swF];omega),if_neg (by simp [swF]),if_pos (show (swF _ _ 2 _ _ _ _ _).pc=2 from rfl),sC,if_pos ht];rfl
theorem sw_key (h : 0≤a) (hl : ks.length < 100) : swS m (swF 5 b 2 (a + 1) p s n ks)=(swF 5 b 3 (a + 1) p s n (ks ++ [kys m a]),m):=by
 unfold swS aB
 rw [if_neg (by simp [swF]),if_neg (by simp [swF]),if_neg (by simp only [swF];omega),if_pos ⟨rfl,rfl⟩,sC,if_pos (show (swF 5 b 2 (a + 1) p s n ks).keys.length < 100 from hl)];rfl
theorem Ak (h : 0≤a) : swS m (swF kd b 3 (a + 1) p s n ks)=(swF kd b 2 (nxt m a) (a + 1) s n ks,m):=by
 unfold swS aB
 rw [if_neg (by simp [swF]),if_neg (by simp [swF]),if_neg (by simp [swF]),if_neg (by simp [swF]),if_neg (by simp [swF]),if_pos ⟨rfl,by simp only [swF];omega⟩,sC];rfl
theorem sw_cut (hk : kd=4∨kd=5) (h : 0≤a) : swS m (swF kd b 4 (a + 1) p s n ks)=(swF kd b 5 (nxt m a) p a n ks,cut m p a b):=by
 have e1 : (swF kd b 4 (a + 1) p s n ks).cur - 1=a:=by simp only [swF];omega
 unfold swS aB
 rw [if_neg (by simp [swF]),if_neg (by simp [swF]),if_neg (by simp [swF]),if_neg (by simp [swF]),if_neg (by simp [swF]),if_neg (by simp [swF]),if_pos ⟨rfl,by simp only [swF];omega⟩,Aq hk,e1,sC];rfl
theorem sw_put (h : 0≤s) (hn : n < 1000000) : swS m (swF kd b 5 c p s n ks)=(swF kd b 2 c p (-1) (n + 1) ks,put m s):=by
 unfold swS aB
 rw [if_neg (by simp [swF]),if_neg (by simp [swF]),if_neg (by simp [swF]),if_neg (by simp [swF]),if_neg (by simp [swF]),if_neg (by simp [swF]),if_neg (by simp [swF]),if_pos ⟨rfl,h⟩,if_neg (by simp only [swF];omega)];rfl
theorem Ap (hk : kd=4∨kd=5) (h : m.locks.getD b.toNat 0=0) : swS m (swF kd b 6 c p s n ks)=(ay (swF kd b 6 c p s n ks) 0,{ m with locks:=m.locks.set b.toNat (-1)}):=by
 have hl : unlock m b 0={ m with locks:=m.locks.set b.toNat (-1)}:=by unfold unlock;rw [if_pos h]
 unfold swS aB
 rw [if_neg (by simp [swF]),if_neg (by simp [swF]),if_neg (by simp [swF]),if_neg (by simp [swF]),if_neg (by simp [swF]),if_neg (by simp [swF]),if_neg (by simp [swF]),if_neg (by simp [swF]),if_pos (show (swF _ _ 6 _ _ _ _ _).pc=6 from rfl),Aq hk,hl]
end
theorem AT {m : Mem} {b s n : Int} : ∀ {l : List Int} {c p q : Int} {ks : List Key} {N : Nat},Seg m c l q→ks.length + l.length≤100→bZ swS (2 * l.length + N) (swF 5 b 2 c p s n ks) m=bZ swS N (swF 5 b 2 q (dE l p) s n (ks ++ l.map (kys m))) m
 | [],c,p,q,ks,N,h,_=>by
  have h : c=q:=h
  subst h
  rw [List.length_nil,Nat.mul_zero,Nat.zero_add,List.map_nil,List.append_nil];rfl
 | d :: l,c,p,q,ks,N,h,hk=>by
  obtain ⟨h1,h2,h3⟩:=h
  subst h1
  rw [List.length_cons] at hk
  rw [List.length_cons,show 2 * (l.length + 1) + N=2 * l.length + N + 1 + 1 from by omega,bd (sw_key (by omega) (by omega)) rfl,bd (Ak (by omega)) rfl,ph,AT h3 (by simp;omega),List.map_cons,List.append_assoc,List.singleton_append]
theorem v8 (l : List Int) (c p : Int) : dE (l ++ [c]) p=c + 1:=by
 unfold dE
 rw [List.getLast?_append];rfl
def wg (b : Nat) : List Int→Int
 | []=>-1 - b
 | c :: _=>c + 1
theorem vF {b : Nat} : ∀ {l kept : List Int} {m : Mem} {s N : Int} {M : Nat},aK m→b < m.heads.length→chL m b=kept ++ l→(∀ c∈kept,m.now < (msl m c.toNat).till)→0≤N→N + l.length≤1000000 →
  ∃ (x : Mem) (p' s' N' : Int) (j : Nat),bZ swS (3 * l.length + M) (swF 4 b 2 (wg b l) (dE kept 0) s N []) m=bZ swS (M + j) (swF 4 b 2 (-1 - b) p' s' N' []) x ∧
   aK x∧x.locks=m.locks∧x.now=m.now∧x.heads.length=m.heads.length∧x.slots.length=m.slots.length∧chL x b=(chL m b).filter (fun c=>decide (m.now < (msl m c.toNat).till))∧(∀ i,i < m.heads.length→i≠b→chL x i=chL m i) ∧
   (∀ c,bu x c=bu m c)∧N' + (chL x b).length=N + (chL m b).length
 | [],kept,m,s,N,M,hC,hb,hl,hk,_,_=>by
  have hf : (chL m b).filter (fun c=>decide (m.now < (msl m c.toNat).till))=chL m b:=List.filter_eq_self.2 fun c hc=>by
   rw [hl,List.append_nil] at hc
   exact decide_eq_true (hk c hc)
  exact ⟨m,dE kept 0,s,N,0,by rw [List.length_nil,Nat.mul_zero,Nat.zero_add,Nat.add_zero];rfl,hC,rfl,rfl,rfl,rfl,hf.symm,fun _ _ _=>rfl,fun _=>rfl,rfl⟩
 | c :: l,kept,m,s,N,M,hC,hb,hl,hk,h0,hN=>by
  have hch:=hC.ch hb
  have hc : c∈chL m b:=by rw [hl];simp
  have hcr:=cW hC hc
  obtain ⟨hp,_⟩:=br.1 hch.of
  rw [hl] at hp
  obtain ⟨q,_,hp2⟩:=eE.1 hp
  obtain ⟨hq,_,hp3⟩:=hp2
  have hnx : nxt m c=wg b l:=by
   cases l with
   | nil=>exact hp3.1
   | cons d l=>exact hp3.1
  rw [List.length_cons] at hN
  rw [List.length_cons]
  rw [show wg b (c :: l)=c + 1 from rfl]
  by_cases ht : m.now < (msl m c.toNat).till
  ·rw [show 3 * (l.length + 1) + M=3 * l.length + (M + 1) + 1 + 1 from by omega,bd (ED hcr.1 ht) rfl,bd (Ak hcr.1) rfl,hnx]
   obtain ⟨x,p',s',N',j,r1,r⟩:=vF (l:=l) (kept:=kept ++ [c]) (m:=m) (s:=s) (N:=N) (M:=M + 1) hC hb (by rw [hl];simp) (fun d hd=>by
    rcases List.mem_append.1 hd with hd | hd
    ·exact hk d hd
    ·rw [List.mem_singleton.1 hd];exact ht) h0 (by omega)
   rw [v8] at r1
   exact ⟨x,p',s',N',j + 1,by rw [r1,show M + 1 + j=M + (j + 1) from by omega],r⟩
  ·rw [show 3 * (l.length + 1) + M=3 * l.length + M + 1 + 1 + 1 from by omega,bd (EC hcr.1 (by omega)) rfl,bd (sw_cut (.inl rfl) hcr.1) rfl,bd (sw_put hcr.1 (by omega)) rfl,hnx]
   have hnk : c ∉ kept:=fun h=>ht (hk c h)
   have hpv : dE kept 0=gk c (chL m b) 0:=by rw [hl];exact (gj hnk).symm
   obtain ⟨y,hy⟩ : ∃ y,y=cut m (dE kept 0) c b:=⟨_,rfl⟩
   obtain ⟨g1,g2,g3,g4,g5⟩:=zW hC hb hc
   obtain ⟨ck1,_,ck3⟩:=vp m (dE kept 0) c b
   rw [← hpv,← hy] at g1 g2 g3 g4 g5
   rw [← hy] at ck1 ck3 ⊢
   have offc : ∀ i,i < y.heads.length→c ∉ chL y i:=fun i hi hci=>by
    rw [g2 i (by omega)] at hci
    split at hci
    ·rename_i e
     subst e
     exact (List.Nodup.mem_erase_iff hch.ndl).1 hci |>.1 rfl
    ·rename_i e
     have h1:=((hC.ch (b:=i) (by omega)).ok c hci).bk
     have h2:=(hch.ok c hc).bk
     rw [h1] at h2
     exact e (by omega)
   obtain ⟨zC,zch,_⟩:=AD g1 hcr.1 (by rw [g4];exact hcr.2) offc
   obtain ⟨p1,p2,p3,p4⟩:=jw y c
   have zf : ∀ d,bu (put y c) d=bu m d:=fun d=>ib ((vV y d.toNat).1.trans (g3 d.toNat).2.1) ((vV y d.toNat).2.1.trans (g3 d.toNat).2.2.1)
   have zt : ∀ d : Int,(msl (put y c) d.toNat).till=(msl m d.toNat).till:=fun d=>congrArg cI.till (zf d)
   have zn : (put y c).now=m.now:=p4.trans ck3
   have hyb : chL (put y c) b=kept ++ l:=by
    rw [zch b (by omega),g2 b hb,if_pos rfl,hl,List.erase_append_right _ hnk,List.erase_cons_head]
   obtain ⟨x,p',s',N',j,r1,r2,r3,r4,r5,r6,r7,r8,r9,r10⟩:=vF (l:=l) (kept:=kept) (m:=put y c) (s:=-1) (N:=N + 1) (M:=M) zC (by rw [p2];omega) hyb (fun d hd=>by rw [zt,zn];exact hk d hd) (by omega) (by omega)
   refine ⟨x,p',s',N',j,r1,r2,r3.trans (p3.trans ck1),r4.trans zn,by rw [r5,p2,g5],by rw [r6,p1,g4],?_,fun i hi hne=>?_,fun d=>(r9 d).trans (zf d),?_⟩
   ·rw [r7,hyb,hl]
    have e : (fun d : Int=>decide ((put y c).now < (msl (put y c) d.toNat).till))=fun d=>decide (m.now < (msl m d.toNat).till):=funext fun d=>by rw [zt,zn]
    rw [e,List.filter_append,List.filter_append,List.filter_cons_of_neg (by simpa using ht)]
   ·rw [r8 i (by rw [p2];omega) hne,zch i (by omega),g2 i hi,if_neg hne]
   ·rw [r10,hyb,hl]
    simp only [List.length_append,List.length_cons]
    omega
theorem uI {f g : Nat→Nat} {c d : Nat} : ∀ {n b : Nat},b≤c→c < b + n→f c=g c + d→(∀ i,b≤i→i < b + n→i≠c→f i=g i)→iX f n b=iX g n b + d
 | 0,b,h1,h2,_,_=>by omega
 | n + 1,b,h1,h2,h3,h4=>by
  rw [iX,iX]
  by_cases e : b=c
  ·subst e
   rw [h3,jQ fun i h5 h6=>h4 i (by omega) (by omega) (by omega)]
   omega
  ·rw [h4 b (Nat.le_refl _) (by omega) e,uI (by omega) (by omega) h3 fun i h5 h6 h7=>h4 i (by omega) (by omega) h7]
   omega
theorem wU {m : Mem} (hC : aK m) {b : Nat} (hb : b < m.heads.length) (hl : ∀ i,i < m.heads.length→m.locks.getD i 0=-1) :
  ∃ f x,bZ swS (3 * m.slots.length + 5) (aX ⟨4,⟨0,0⟩,0,b,0⟩) m=(f,x,true)∧aK x∧f.e=0 ∧
   aq x=(aq m).filter (fun w=>!(decide (w.till≤m.now) && decide (w.slot∈chL m b)))∧f.n=(aq m).length - (aq x).length:=by
 have hm:=hC.mem
 have hst : aX ⟨4,⟨0,0⟩,0,b,0⟩=swF 4 b 0 0 0 (-1) 0 []:=rfl
 have hch:=hC.ch hb
 obtain ⟨hp,hle⟩:=br.1 hch.of
 have hlk : m.locks.getD (b : Int).toNat 0=-1:=hl _ (by omega)
 have hll : (b : Int).toNat < m.locks.length:=by rw [hm.nl];omega
 rw [hst,bd (An (.inl rfl) hlk) rfl]
 obtain ⟨zC,zch,zfl⟩:=mi hC (b:=(b : Int).toNat) (v:=0) (by omega) (by omega)
 obtain ⟨z,hz⟩ : ∃ z : Mem,z={ m with locks:=m.locks.set (b : Int).toNat 0}:=⟨_,rfl⟩
 rw [← hz] at zC zch zfl ⊢
 have zm : ∀ i,msl z i=msl m i:=fun i=>by rw [hz];rfl
 have zh : z.heads=m.heads:=by rw [hz]
 have zn : z.now=m.now:=by rw [hz]
 have zl : z.locks.getD (b : Int).toNat 0=0:=by rw [hz];exact fB hll
 have back : z.locks.set (b : Int).toNat (-1)=m.locks:=by rw [hz];exact oW hlk hll
 rw [bd (wV (.inl rfl)) rfl]
 have hhd : aO z b=wg b (chL z b):=by
  rw [zch b hb]
  have e : aO z b=aO m b:=by unfold aO;rw [zh]
  rw [e]
  cases hc : chL m b with
  | nil=>rw [hc] at hp;exact hp.1
  | cons c l=>rw [hc] at hp;exact hp.1
 rw [hhd]
 have hzl : (chL z b).length≤m.slots.length:=by rw [zch b hb];exact hle
 have hns:=hm.ns
 obtain ⟨x,p',s',N',j,r1,r2,r3,r4,r5,r6,r7,r8,r9,r10⟩:=vF (b:=b) (l:=chL z b) (kept:=[]) (m:=z) (s:=-1) (N:=0) (M:=3 * m.slots.length + 3 - 3 * (chL z b).length) zC (by rw [zh];exact hb) rfl (fun _ h=>by cases h) (by omega) (by omega)
 have hone : dE [] 0=0:=rfl
 rw [hone] at r1
 rw [show 3 * m.slots.length + 3=3 * (chL z b).length + (3 * m.slots.length + 3 - 3 * (chL z b).length) from by omega,r1]
 rw [show 3 * m.slots.length + 3 - 3 * (chL z b).length + j=(3 * m.slots.length + 1 - 3 * (chL z b).length + j) + 1 + 1 from by omega]
 rw [bd (CL (by omega)) rfl,dm (Ap (.inl rfl) (by rw [r3];exact zl)) rfl]
 obtain ⟨wC,wch,wfl⟩:=mi r2 (b:=(b : Int).toNat) (v:=-1) (by omega) (by omega)
 have xfl : aq x=(aq m).filter (fun w=>!(decide (w.till≤m.now) && decide (w.slot∈chL m b))):=my (by rw [r5,zh]) fun i hi=>by
  have e0 : (chL x i).map (bu x)=(chL x i).map (bu m):=List.map_congr_left fun d _=>(r9 d).trans (ib (by rw [zm]) (by rw [zm]))
  rw [e0,List.filter_map]
  congr 1
  by_cases e : i=b
  ·subst e
   rw [r7,zch i hi]
   refine List.filter_congr fun d hd=>?_
   show _=!(decide ((msl m d.toNat).till≤m.now) && decide (d∈chL m i))
   rw [decide_eq_true hd,Bool.and_true,zn,zm]
   by_cases h : m.now < (msl m d.toNat).till
   ·rw [decide_eq_true h,decide_eq_false (by omega)];rfl
   ·rw [decide_eq_false h,decide_eq_true (by omega)];rfl
  ·rw [r8 i (by rw [zh];exact hi) e,zch i hi]
   refine (List.filter_eq_self.2 fun d hd=>?_).symm
   have : d ∉ chL m b:=fun hd'=>by
    have h1:=((hC.ch hi).ok d hd).bk
    have h2:=(hch.ok d hd').bk
    rw [h1] at h2
    exact e (by omega)
   show (!(decide ((msl m d.toNat).till≤m.now) && decide (d∈chL m b)))=true
   rw [decide_eq_false this,Bool.and_false];rfl
 refine ⟨_,_,rfl,wC,rfl,by rw [wfl];exact xfl,?_⟩
 rw [wfl]
 show N'=_
 have hzb : chL z b=chL m b:=zch b hb
 have hlt : (chL x b).length≤(chL m b).length:=by rw [r7,hzb];exact List.length_filter_le _ _
 have hcnt : (aq m).length=(aq x).length + ((chL m b).length - (chL x b).length):=by
  unfold aq
  rw [fC,fC,r5,zh,uI (f:=fun i=>(chL m i).length) (g:=fun i=>(chL x i).length) (c:=b) (d:=(chL m b).length - (chL x b).length) (by omega) (by omega) (by show (chL m b).length=(chL x b).length + _;omega) fun i _ h2 h3=>by show (chL m i).length=(chL x i).length;rw [r8 i (by rw [zh];omega) h3,zch i (by omega)]]
  simp
 rw [hzb] at r10
 omega
theorem zw {m : Mem} (hC : aK m) {b : Nat} (hb : b < m.heads.length) (hl : ∀ i,i < m.heads.length→m.locks.getD i 0=-1) :
  ∃ f,bZ swS (2 * m.slots.length + 5) (aX ⟨5,⟨0,0⟩,0,b,0⟩) m=(f,m,true)∧f.e=0∧f.keys=(chL m b).map (kys m):=by
 have hm:=hC.mem
 have hst : aX ⟨5,⟨0,0⟩,0,b,0⟩=swF 5 b 0 0 0 (-1) 0 []:=rfl
 have hch:=hC.ch hb
 obtain ⟨hp,hle⟩:=br.1 hch.of
 have hlk : m.locks.getD (b : Int).toNat 0=-1:=hl _ (by omega)
 have hll : (b : Int).toNat < m.locks.length:=by rw [hm.nl];omega
 have hns:=hm.ns
 rw [hst,bd (An (.inr rfl) hlk) rfl]
 obtain ⟨z,hz⟩ : ∃ z : Mem,z={ m with locks:=m.locks.set (b : Int).toNat 0}:=⟨_,rfl⟩
 rw [← hz]
 have zm : ∀ i,msl z i=msl m i:=fun i=>by rw [hz];rfl
 have zl : z.locks.getD (b : Int).toNat 0=0:=by rw [hz];exact fB hll
 have back : z.locks.set (b : Int).toNat (-1)=m.locks:=by rw [hz];exact oW hlk hll
 have hs : Seg z (aO z b) (chL m b) (-1 - b):=by
  have e : aO z b=aO m b:=by rw [hz];rfl
  rw [e]
  refine Seg.congr (m:=m) (fun c _=>by unfold nxt;rw [zm]) ?_
  have:=(eE (m:=m) (l1:=chL m b) (l2:=[]) (n:=aO m b) (e:=-1 - b)).1 (by rw [List.append_nil];exact hp)
  obtain ⟨q,h1,h2⟩:=this
  rw [h2.1] at h1
  exact h1
 rw [bd (wV (.inr rfl)) rfl,show 2 * m.slots.length + 3=2 * (chL m b).length + ((2 * m.slots.length + 1 - 2 * (chL m b).length) + 1 + 1) from by omega,AT hs (by simp;omega),bd (CL (by omega)) rfl,dm (Ap (.inr rfl) zl) rfl]
 have ex : ({ z with locks:=z.locks.set (b : Int).toNat (-1)} : Mem)=m:=by rw [back,hz]
 rw [ex]
 refine ⟨_,rfl,rfl,?_⟩
 show [] ++ (chL m b).map (kys z)=_
 rw [List.nil_append]
 exact List.map_congr_left fun c _=>by unfold kys;rw [zm]
end Go.Proofs.Ytpmamacjepcdmaa
