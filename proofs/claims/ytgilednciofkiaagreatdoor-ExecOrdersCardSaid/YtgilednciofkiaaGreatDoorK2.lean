/- A thread's unfolding: the document's. -/
import Derived.Test.YtgilednciofkiaaGreatDoorK
import Derived.Test.YtgilednciofkiaaGreatDoorI
import Derived.Test.YtgilednciofkiaaGreatDoorH2
import Derived.Test.YtgilednciofkiaaGreatDoorC
import Derived.Test.YtgilednciofkiaaGreatDoorC1
set_option linter.unusedSimpArgs false
set_option linter.unusedVariables false
namespace Go.Jq
variable {G:Nat→SFunc} {h h0 h1:AH} {R:Value→AH→Prop}
theorem nrm_pc {th:List Ins} (l:Lcl):l.pc≤(nrm th l).pc:=by
  generalize hm:th.length - l.pc=m
  induction m using Nat.strongRecOn generalizing l with
  | _ m ih =>
    rw [nrm]
    split
    · rename_i hl
      split
      · exact Nat.le_trans (by show l.pc≤l.pc+1;omega) (ih _ (by show th.length - (l.pc+1) < m;omega) _ rfl)
      · split
        · split
          · exact Nat.le_trans (by show l.pc≤l.pc+1+1;omega) (ih _ (by show th.length - (l.pc+1+1) < m;omega) _ rfl)
          · exact Nat.le_trans (by show l.pc≤l.pc+1;omega) (ih _ (by show th.length - (l.pc+1) < m;omega) _ rfl)
        · exact Nat.le_refl _
    · exact Nat.le_refl _
theorem aft_pc {th:List Ins} {l:Lcl} {i:Ins} {x:Int} (h:nextM th l=some i):l.pc < (aftM th l x).pc:=by
  unfold aftM
  rw [h]
  have:=nrm_pc (th:=th) { (if i.kind=2 ∨ i.kind=4 then l.set i.reg x else l) with pc:=l.pc+1 }
  simp at this ⊢;omega
def e6 (t:Int) (n:Nat) (e:Evt):Ev6:=⟨t,n,e.kind,e.loc,e.r,e.w⟩
def unfM (th:List Ins) (t:Int) (reads:List Int) (l:Lcl) (n:Nat):List Ev6×Lcl×Bool :=
  match hq:nextM th l with
  | none=>([],l,false)
  | some i =>
    if i.kind=2 ∨ i.kind=4 then
      match reads with
      | []=>([],l,true)
      | v::rs=>(e6 t n (evtM i l v)::(unfM th t rs (aftM th l v) (n+1)).1,(unfM th t rs (aftM th l v) (n+1)).2)
    else (e6 t n (evtM i l 0)::(unfM th t reads (aftM th l 0) (n+1)).1,(unfM th t reads (aftM th l 0) (n+1)).2)
termination_by th.length - l.pc
decreasing_by
  all_goals
    have h1:=(nextM_mem hq).2.1
    first
      | (have h2:=aft_pc (x:=v) hq;omega)
      | (have h2:=aft_pc (x:=0) hq;omega)
theorem unf_none {th:List Ins} {t:Int} {reads:List Int} {l:Lcl} {n:Nat} (h:nextM th l=none):unfM th t reads l n=([],l,false):=by
  rw [unfM];split
  · rfl
  · rename_i i q;rw [h] at q;simp at q
theorem unf_stop {th:List Ins} {t:Int} {l:Lcl} {n:Nat} {i:Ins} (h:nextM th l=some i) (hk:i.kind=2 ∨ i.kind=4):unfM th t [] l n=([],l,true):=by
  rw [unfM];split
  · rename_i q;rw [h] at q;simp at q
  · rename_i j q
    rw [h] at q;obtain rfl:=Option.some.inj q
    rw [if_pos hk]
theorem unf_read {th:List Ins} {t:Int} {l:Lcl} {n:Nat} {i:Ins} {v:Int} {rs:List Int} (h:nextM th l=some i) (hk:i.kind=2 ∨ i.kind=4):unfM th t (v::rs) l n=(e6 t n (evtM i l v)::(unfM th t rs (aftM th l v) (n+1)).1,(unfM th t rs (aftM th l v) (n+1)).2):=by
  rw [unfM];split
  · rename_i q;rw [h] at q;simp at q
  · rename_i j q
    rw [h] at q;obtain rfl:=Option.some.inj q
    rw [if_pos hk]
theorem unf_on {th:List Ins} {t:Int} {l:Lcl} {n:Nat} {i:Ins} {rs:List Int} (h:nextM th l=some i) (hk:¬ (i.kind=2 ∨ i.kind=4)):unfM th t rs l n=(e6 t n (evtM i l 0)::(unfM th t rs (aftM th l 0) (n+1)).1,(unfM th t rs (aftM th l 0) (n+1)).2):=by
  rw [unfM];split
  · rename_i q;rw [h] at q;simp at q
  · rename_i j q
    rw [h] at q;obtain rfl:=Option.some.inj q
    rw [if_neg hk]
theorem unf_len {th:List Ins} {t:Int}:∀ (m:Nat) (reads:List Int) (l:Lcl) (n:Nat),th.length - l.pc≤m→(unfM th t reads l n).1.length≤m:=by
  intro m
  induction m with
  | zero =>
    intro reads l n hm
    have:nextM th l=none:=by unfold nextM;rw [dif_neg (by omega)]
    rw [unf_none this];simp
  | succ m ih =>
    intro reads l n hm
    cases e:nextM th l with
    | none=>rw [unf_none e];simp
    | some i =>
      have hl:=(nextM_mem e).2.1
      by_cases hk:i.kind=2 ∨ i.kind=4
      · cases reads with
        | nil=>rw [unf_stop e hk];simp
        | cons v rs =>
          rw [unf_read e hk]
          have:=ih rs (aftM th l v) (n+1) (by have:=aft_pc (x:=v) e;omega)
          simp;omega
      · rw [unf_on e hk]
        have:=ih reads (aftM th l 0) (n+1) (by have:=aft_pc (x:=0) e;omega)
        simp;omega
@[simp] theorem Clean_lcl {n:Nat} {l:Lcl}:Clean n l.v=True:=eq_true (by simp [Lcl.v,Lcl.c])
@[simp] theorem Clean_ins {n:Nat} {i:Ins}:Clean n i.v=True:=eq_true (by simp [Ins.v,Ins.c])
@[simp] theorem Clean_evt {n:Nat} {e:Evt}:Clean n e.v=True:=eq_true (by simp [Evt.v])
@[simp] theorem Clean_next {n:Nat} {th:List Ins} {l:Lcl}:Clean n (nextV th l)=True:=eq_true (by unfold nextV;split <;> simp [Ins.v,Ins.c])
theorem Start_x (g:StepG G) {p:Prg} {lv iv tv:Value} (V:PrgV h p lv iv tv) (O:ThOk p) {t:Nat} {th:List Ins} (ht:t < p.ths.length) (hth:p.ths[t]=th) (k:R (nrm th .zero).v h):WC G 291 [.agg #[lv,iv,tv],.int .i64 t] h R:=by subst hth;exact WC_is (by simp) k fun _=>Start_spec g V O ht
theorem there_x (g:StepG G) {p:Prg} {lv iv tv:Value} (V:PrgV h p lv iv tv) {t:Nat} (k:R (.bool (decide (t < p.ths.length))) h):WC G 298 [.agg #[lv,iv,tv],.int .i64 t] h R:=WC_is (by simp) k fun _=>there_spec g V
theorem Next_x (g:StepG G) {p:Prg} {lv iv tv:Value} (V:PrgV h p lv iv tv) {t:Nat} {th:List Ins} (ht:t < p.ths.length) (hth:p.ths[t]=th) {l:Lcl} (k:R (nextV th l) h):WC G 295 [.agg #[lv,iv,tv],.int .i64 t,.agg #[.int .i64 l.pc,.int .i64 l.r0,.int .i64 l.r1,.int .i64 l.r2,.int .i64 l.r3]] h R:=by subst hth;exact WC_is (by simp) k fun _=>Next_spec g V ht
theorem After_x (g:StepG G) {p:Prg} {lv iv tv:Value} (V:PrgV h p lv iv tv) (O:ThOk p) {t:Nat} {th:List Ins} (ht:t < p.ths.length) (hth:p.ths[t]=th) {l:Lcl} {x:Int} (k:R (aftM th l x).v h):WC G 297 [.agg #[lv,iv,tv],.int .i64 t,.agg #[.int .i64 l.pc,.int .i64 l.r0,.int .i64 l.r1,.int .i64 l.r2,.int .i64 l.r3],.int .i64 x] h R:=by subst hth;exact WC_is (by simp) k fun _=>After_spec g V O ht
theorem Event_x (g:StepG G) {i:Ins} {l:Lcl} {x:Int} {P:Int→Prop} (ok:iOk P i) (k:R (evtM i l x).v h):WC G 296 [.agg #[.int .i64 i.kind,.int .i64 i.reg,.int .i64 i.loc,.int .i64 i.areg,.int .i64 i.aval,.int .i64 i.op,.int .i64 i.breg,.int .i64 i.bval,.int .i64 i.n],.agg #[.int .i64 l.pc,.int .i64 l.r0,.int .i64 l.r1,.int .i64 l.r2,.int .i64 l.r3],.int .i64 x] h R:=WC_is (by simp) k fun _=>Event_spec g ok
structure UnfG (G:Nat→SFunc):Prop extends StepG G where
  g348:G 348=c348
def inv348 (h:AH) (th:List Ins) (t:Nat) (reads:List Int) (rv:Value) (pc:List Value) (T:List Ev6×Lcl×Bool) (mm:Nat) (F:Fr) (hh:AH):Prop :=
  ∃ (l:Lcl) (out:List Ev6) (j:Nat) (v:Value),mm=th.length - l.pc∧j≤reads.length∧out.length≤l.pc∧T=(out++(unfM th t (reads.drop j) l out.length).1,(unfM th t (reads.drop j) l out.length).2)∧Ext h hh∧h.next+3≤hh.next ∧
    hh.get h.next=.cells pc false false∧hh.get (h.next+1)=.cells (zi 5) false false∧hh.get (h.next+2)=.cells l.c false false∧SlG 6 hh (h.next+3) out.length (out.flatMap Ev6.c) v ∧
    F=[(1,.int .i64 t),(2,rv),(3,ptrV h.next),(7,ptrV (h.next+1)),(9,ptrV (h.next+2)),(10,v),(11,.int .i64 j)]
theorem lput348 {k lo n b:Nat} {cs:List Value} {v:Value} {hh:AH} {L:List ABlk} {o:ABlk} (x:Ext h hh) (s:SlG k hh lo n cs v) (hb:h.next≤b) (hl:b < lo):Ext h ((hh.lays L).put b o)∧SlG k ((hh.lays L).put b o) h.next n cs v :=
  ⟨x.lays'.put hb _,((s.ext .lays).up (by exact Nat.le_refl _) fun i hi _=>by rw [AH.put_get,if_neg (by omega)]).low (by omega)⟩
set_option maxHeartbeats 4000000 in
theorem Unfold_d (g:UnfG G) {p:Prg} {lv iv tv rv:Value} (V:PrgV h p lv iv tv) (O:ThOk p) {t:Nat} (ht:t < p.ths.length) {reads:List Int} (S:SlV 1 h reads.length (reads.flatMap intC) rv) (hr:reads.length≤1000)
    (k:∀ h1 v,Ext h h1→SlG 6 h1 h.next (unfM p.ths[t] t reads (nrm p.ths[t] .zero) 0).1.length ((unfM p.ths[t] t reads (nrm p.ths[t] .zero) 0).1.flatMap Ev6.c) v→R (.tuple #[v,(unfM p.ths[t] t reads (nrm p.ths[t] .zero) 0).2.1.v,.bool (unfM p.ths[t] t reads (nrm p.ths[t] .zero) 0).2.2]) h1) :
    WC G 348 [.agg #[lv,iv,tv],.int .i64 t,rv] h R:=by
  have o:=O.ok _ (List.getElem_mem ht)
  obtain ⟨sa,sc,rfl⟩:=S.len
  obtain ⟨th,hth⟩:∃ th,p.ths[t]=th:=⟨_,rfl⟩
  rw [hth] at o
  simp only [hth] at k
  refine WC_enter g.g348 rfl ?_
  simp -implicitDefEqProofs [c348,c348_body,c348_0,c348_1,ptrV]
  refine there_x g.toStepG (V.ext .lays) ?_
  simp -implicitDefEqProofs [ht,c348_3]
  refine Start_x g.toStepG (V.ext .lays) O ht hth ?_
  have z5:zi 5=[.int .i64 0,.int .i64 0,.int .i64 0,.int .i64 0,.int .i64 0]:=rfl
  have z9:zi 9=[.int .i64 0,.int .i64 0,.int .i64 0,.int .i64 0,.int .i64 0,.int .i64 0,.int .i64 0,.int .i64 0,.int .i64 0]:=rfl
  have z6:zi 6=[.int .i64 0,.int .i64 0,.int .i64 0,.int .i64 0,.int .i64 0,.int .i64 0]:=rfl
  have lc:∀ l:Lcl,l.c=[.int .i64 l.pc,.int .i64 l.r0,.int .i64 l.r1,.int .i64 l.r2,.int .i64 l.r3]:=fun _=>rfl
  generalize hT:unfM th t reads (nrm th .zero) 0=T at *
  simp -implicitDefEqProofs [Lcl.v,lc,z5,splice,c348_4,c348_5]
  refine W_loop (inv348 h th t reads (.slice sa reads.length sc) [lv,iv,tv] T) (th.length - (nrm th .zero).pc) ⟨nrm th .zero,[],0,_,rfl,by omega,by simp,by simp [hT],.lays,by simp,by simp,by simp [z5],by simp [lc],SlG.nil,by simp [ptrV]⟩ ?_
  rintro mm F hh ⟨l,out,j,v,rfl,hj,hol,hTe,x,hn,g0,g1,g2,so,rfl⟩
  have V1:=V.ext x
  have S1:=S.ext x
  obtain ⟨va,vc,hv⟩:=so.len
  subst hv
  simp -implicitDefEqProofs [c348_19,c348_6,ptrV,g0,g2,lc,AH.load]
  refine Next_x g.toStepG V1 ht hth ?_
  have n0:¬ h.next=hh.next:=by omega
  have n1:¬ h.next+1=hh.next:=by omega
  have n2:¬ h.next+2=hh.next:=by omega
  have b1:h.next+1 < hh.next:=by omega
  have b2:h.next+2 < hh.next:=by omega
  have l1:∀ L,(hh.lays L).get (h.next+1)=.cells (zi 5) false false:=fun L=>by rw [AH.lays_lt b1,g1]
  have l2:∀ L,(hh.lays L).get (h.next+2)=.cells l.c false false:=fun L=>by rw [AH.lays_lt b2,g2]
  cases en:nextM th l with
  | none =>
    rw [unf_none en] at hTe
    obtain rfl:=hTe
    simp only [nextV,en]
    simp -implicitDefEqProofs [Ins.zero,Ins.v,Ins.c,z9,splice,c348_7,c348_8,c348_8b,l1,l2,n0,n1,n2,lc,z5]
    obtain ⟨y,s1⟩:=lput348 (L:=[.cells [.int .i64 0,.int .i64 0,.int .i64 0,.int .i64 0,.int .i64 0,.int .i64 0,.int .i64 0,.int .i64 0,.int .i64 0] false false]) (o:=.cells [.int .i64 l.pc,.int .i64 l.r0,.int .i64 l.r1,.int .i64 l.r2,.int .i64 l.r3] false false) x so (b:=h.next+1) (by omega) (by omega)
    have:=k _ _ y (by simpa using s1)
    simpa [Lcl.v,Lcl.c] using this
  | some i =>
    obtain ⟨hm,hl,k5,k6⟩:=nextM_mem en
    have ok:=o.1.ok i hm
    simp only [nextV,en]
    have tail:∀ (x2:Int) (j2:Nat),j2≤reads.length→T=(out++e6 t out.length (evtM i l x2)::(unfM th t (reads.drop j2) (aftM th l x2) (out.length+1)).1,(unfM th t (reads.drop j2) (aftM th l x2) (out.length+1)).2)→wO G c348_15 [(1,.int .i64 t),(2,.slice sa reads.length sc),(3,.pointer (some ⟨h.next,0,none⟩)),
        (7,.pointer (some ⟨h.next+1,0,none⟩)),(9,.pointer (some ⟨h.next+2,0,none⟩)),(10,.slice va out.length vc),(11,.int .i64 j2),(12,.pointer (some ⟨hh.next,0,none⟩)),(14,.int .i64 x2)] (hh.lays [.cells [.int .i64 i.kind,.int .i64 i.reg,.int .i64 i.loc,.int .i64 i.areg,.int .i64 i.aval,.int .i64 i.op,.int .i64 i.breg,.int .i64 i.bval,.int .i64 i.n] false false])
        (keepK [1,2,3,7,9,10,11,14,15] (thenK (W G ((SCode.reg [1,2,3,7,9,10,11,14,15] c348_16).seq ((SCode.reg [1,2,3,7,9,10,11,14] c348_17).seq (SCode.reg [1,2,3,7,9,10,11] c348_18)))) (blockK 1
            (loopK (fun F1 h1=>∃ m,m < th.length - l.pc∧inv348 h th t reads (.slice sa reads.length sc) [lv,iv,tv] T m F1 h1)
              (blockK 0 (retK [SRes.tmp 6,SRes.cellN 7 5,SRes.tmp 8] R)))))):=by
      intro x2 j2 hj2 hT2
      simp -implicitDefEqProofs [c348_15,l1,l2,lc,n0,n1,n2]
      refine Event_x g.toStepG ok ?_
      simp -implicitDefEqProofs [Evt.v,z6,splice,c348_16,c348_17]
      have xl:∀ {y},y < h.next+3→blkOf (.slice va out.length vc) ≠ some y:=fun hy e=>by have:=(so.blk e).1;omega
      refine SlG.app (so.ext .lays) (ec:=(e6 t out.length (evtM i l x2)).c) (o:=0) (by simp [AH.load,Ev6.c,e6]) (by omega) (by omega) (by simp;omega) fun h' s' hn' hg'=>?_
      have hx:∀ y,y < h.next+3→h'.get y=hh.get y:=fun y hy=>by rw [hg' y (by simp;omega) (xl hy),AH.lays_lt (by omega)]
      simp at hn'
      have x':Ext h h':=⟨by omega,fun y hy=>by rw [hx y (by omega)];exact x.get y hy⟩
      simp -implicitDefEqProofs [c348_18,AH.load,hx _ (by omega:h.next < h.next+3),hx _ (by omega:h.next+2 < h.next+3),g0,g2,lc]
      refine After_x g.toStepG (V.ext x') O ht hth ?_
      simp -implicitDefEqProofs [Lcl.v,lc,splice,hx _ (by omega:h.next+2 < h.next+3),g2]
      have pc2:=aft_pc (x:=x2) en
      refine ⟨th.length - (aftM th l x2).pc,by omega,aftM th l x2,out++[e6 t out.length (evtM i l x2)],j2,.slice (some ⟨hh.next+3,0,some 6⟩) (out.length+1) (out.length+1),rfl,hj2,by simp;omega,by simp [hT2],x'.put (by omega) _,by simp [AH.put_next];omega,by simp [AH.put_get,hx,g0],by simp [AH.put_get,hx,g1],by simp [AH.put_get,lc],?_,by simp [ptrV]⟩
      have:=s'.up (y:=h'.put (h.next+2) (.cells [.int .i64 (aftM th l x2).pc,.int .i64 (aftM th l x2).r0,.int .i64 (aftM th l x2).r1,.int .i64 (aftM th l x2).r2,.int .i64 (aftM th l x2).r3] false false)) (by exact Nat.le_refl _) fun y hy _=>by rw [AH.put_get,if_neg (by omega)]
      simpa using this
    simp -implicitDefEqProofs [Ins.v,Ins.c,z9,splice,c348_7,c348_9]
    by_cases k2:i.kind=2
    · simp -implicitDefEqProofs [c348_10,eq_true k2,c348_11]
      by_cases ej:j=reads.length
      · subst ej
        rw [List.drop_length,unf_stop en (.inl k2)] at hTe
        obtain rfl:=hTe
        simp -implicitDefEqProofs [c348_12,c348_12b,l1,l2,n0,n1,n2,lc,z5,splice]
        obtain ⟨y,s1⟩:=lput348 (L:=[.cells [.int .i64 i.kind,.int .i64 i.reg,.int .i64 i.loc,.int .i64 i.areg,.int .i64 i.aval,.int .i64 i.op,.int .i64 i.breg,.int .i64 i.bval,.int .i64 i.n] false false]) (o:=.cells [.int .i64 l.pc,.int .i64 l.r0,.int .i64 l.r1,.int .i64 l.r2,.int .i64 l.r3] false false) x so (b:=h.next+1) (by omega) (by omega)
        have:=k _ _ y (by simpa using s1)
        simpa [Lcl.v,Lcl.c] using this
      · have hlt:j < reads.length:=Nat.lt_of_le_of_ne hj ej
        have ejf:((j:Int)=reads.length)=False:=eq_false (by omega)
        obtain ⟨b,o',sp,c0,gr,ro,rfl,hb,gb,hc,hc1,hc2⟩:=S1.rd (f:=intC) (fun _=>rfl) hlt
        have hv:=hc2 0 Nat.one_pos
        have jj:IntKind.i64.wrap ((j:Int)+1)=((j+1:Nat):Int):=by rw [wrap64 (by omega)];rfl
        simp [intC] at hv
        rw [List.drop_eq_getElem_cons hlt,unf_read en (.inl k2)] at hTe
        simp -implicitDefEqProofs [ejf,c348_13,c348_14,hlt,AH.lays_lt hb,gb,hv,jj]
        exact tail reads[j] (j+1) (by omega) hTe
    · by_cases k4:i.kind=4
      · simp -implicitDefEqProofs [c348_10,eq_false k2,eq_true k4,c348_11]
        by_cases ej:j=reads.length
        · subst ej
          rw [List.drop_length,unf_stop en (.inr k4)] at hTe
          obtain rfl:=hTe
          simp -implicitDefEqProofs [c348_12,c348_12b,l1,l2,n0,n1,n2,lc,z5,splice]
          obtain ⟨y,s1⟩:=lput348 (L:=[.cells [.int .i64 i.kind,.int .i64 i.reg,.int .i64 i.loc,.int .i64 i.areg,.int .i64 i.aval,.int .i64 i.op,.int .i64 i.breg,.int .i64 i.bval,.int .i64 i.n] false false]) (o:=.cells [.int .i64 l.pc,.int .i64 l.r0,.int .i64 l.r1,.int .i64 l.r2,.int .i64 l.r3] false false) x so (b:=h.next+1) (by omega) (by omega)
          have:=k _ _ y (by simpa using s1)
          simpa [Lcl.v,Lcl.c] using this
        · have hlt:j < reads.length:=Nat.lt_of_le_of_ne hj ej
          have ejf:((j:Int)=reads.length)=False:=eq_false (by omega)
          obtain ⟨b,o',sp,c0,gr,ro,rfl,hb,gb,hc,hc1,hc2⟩:=S1.rd (f:=intC) (fun _=>rfl) hlt
          have hv:=hc2 0 Nat.one_pos
          have jj:IntKind.i64.wrap ((j:Int)+1)=((j+1:Nat):Int):=by rw [wrap64 (by omega)];rfl
          simp [intC] at hv
          rw [List.drop_eq_getElem_cons hlt,unf_read en (.inr k4)] at hTe
          simp -implicitDefEqProofs [ejf,c348_13,c348_14,hlt,AH.lays_lt hb,gb,hv,jj]
          exact tail reads[j] (j+1) (by omega) hTe
      · simp -implicitDefEqProofs [c348_10,eq_false k2,eq_false k4]
        refine tail 0 j hj (by rw [hTe,unf_on en (by simp [k2,k4])])
end Go.Jq
namespace Go.Jq
variable {G:Nat→SFunc} {h h0 h1:AH} {R:Value→AH→Prop}
theorem Nest.xt {α:Type} {f:α→List Value} {k:Nat} {ths:List (List α)} {v:Value} (n:Nest f k h ths v) (x:Xt h h1):Nest f k h1 ths v:=by
  obtain ⟨tvs,h1,h2⟩:=n
  exact ⟨tvs,h1.xt x,h2.imp fun _ _ _ _ s=>s.xt x⟩
theorem PrgV.xt {p:Prg} {lv iv tv:Value} (v:PrgV h p lv iv tv) (x:Xt h h1):PrgV h1 p lv iv tv:=⟨v.locs.xt x,v.init.xt x,v.ths.xt x⟩
def Kl (h:AH) (vs:List Value):AH:=⟨h.next,fun b=>if ∃ v ∈ vs,blkOf v=some b then .dead else h.get b⟩
section
variable {vs vs1:List Value}
@[simp] theorem Kl.next:(Kl h vs).next=h.next:=rfl
theorem Kl.xt:Xt (Kl h vs) h:=⟨Nat.le_refl _,fun b c g ro _ e=>by
  simp only [Kl] at e
  split at e
  · simp at e
  · exact e⟩
theorem Kl.get {b:Nat} (h1:∀ v ∈ vs,blkOf v ≠ some b):(Kl h vs).get b=h.get b:=if_neg fun ⟨v,m,e⟩=>h1 v m e
theorem Kl.up {b:Nat} {c:List Value} {g ro:Bool} (e:(Kl h vs).get b=.cells c g ro):(∀ v ∈ vs,blkOf v ≠ some b)∧h.get b=.cells c g ro:=by
  simp only [Kl] at e
  split at e
  · simp at e
  · rename_i q;exact ⟨fun v m x=>q ⟨v,m,x⟩,e⟩
theorem Kl.ext (x:Ext h h1):Xt (Kl h vs) (Kl h1 vs):=⟨x.next,fun b c g ro hb e=>by
  obtain ⟨q1,q2⟩:=Kl.up e
  rw [Kl.get q1,x.get b hb];exact q2⟩
theorem Kl.chg (hn:h.next≤h1.next) (hg:∀ b,b < h.next→(∀ v ∈ vs,blkOf v ≠ some b)→h1.get b=h.get b) (hv:∀ v1 ∈ vs1,∀ b,blkOf v1=some b→(∃ v ∈ vs,blkOf v=some b) ∨ h.next≤b):Xt (Kl h vs) (Kl h1 vs1):=⟨hn,fun b c g ro hb e=>by
  obtain ⟨q1,q2⟩:=Kl.up e
  have hb:b < h.next:=hb
  rw [Kl.get (fun v m e=>by
    rcases hv v m b e with ⟨w,mw,ew⟩ | q
    · exact q1 w mw ew
    · omega),hg b hb q1];exact q2⟩
theorem Kl.nil:Xt h (Kl h [.slice none 0 0]):=⟨Nat.le_refl _,fun b c g ro _ e=>by rw [Kl.get (by simp [blkOf])];exact e⟩
theorem SlX.kl {k n:Nat} {cs:List Value} {u:Value} (s:SlX k h n cs u) (hu:∀ b,blkOf u=some b→∀ v ∈ vs,blkOf v ≠ some b):SlX k (Kl h vs) n cs u:=by
  obtain ⟨s1,s2⟩:=s
  refine ⟨s1,?_⟩
  rcases s2 with s2 | ⟨b,o,sp,c,c0,g,ro,rfl,e6,e7,e2,e3,e4,e5⟩
  · exact .inl s2
  · exact .inr ⟨b,o,sp,c,c0,g,ro,rfl,e6,e7,e2,by rw [Kl.get (hu b rfl)];exact e3,e4,e5⟩
end
def NestO (lo:Nat) (h:AH) (L:List (List Ev6)) (v:Value):Prop:=∃ tvs,SlG 1 h lo L.length tvs v∧All2 (fun (l:List Ev6) u=>SlX 6 (Kl h [v]) l.length (l.flatMap Ev6.c) u∧∀ b,blkOf u=some b→lo≤b) L tvs
section
variable {lo:Nat} {L:List (List Ev6)} {v:Value}
theorem NestO.nil:NestO lo h [] (.slice none 0 0):=⟨[],SlG.nil,.nil⟩
theorem NestO.ext (o:NestO lo h L v) (x:Ext h h1):NestO lo h1 L v:=by
  obtain ⟨tvs,s,a⟩:=o
  exact ⟨tvs,s.ext x,a.imp fun _ _ _ _ q=>⟨q.1.xt (Kl.ext x),q.2⟩⟩
theorem NestO.len (o:NestO lo h L v):∃ a c,v=.slice a L.length c:=by
  obtain ⟨tvs,s,a⟩:=o;exact s.len
theorem NestO.x (o:NestO lo h L v):NestX Ev6.c 6 h L v:=by
  obtain ⟨tvs,s,a⟩:=o
  exact ⟨tvs,s.x,a.imp fun _ _ _ _ q=>q.1.xt Kl.xt⟩
theorem NestO.same (o:NestO lo h L v) (hn:h.next≤h1.next) (hg:∀ b,lo≤b→b < h.next→h1.get b=h.get b):NestO lo h1 L v:=by
  obtain ⟨tvs,s,a⟩:=o
  refine ⟨tvs,s.up hn hg,a.imp fun _ u _ _ q=>⟨?_,q.2⟩⟩
  refine q.1.same hn fun b e=>?_
  have hb:=q.1.lt e
  have hl:=q.2 b e
  simp only [Kl]
  rw [hg b hl hb]
end
def thrF (th:List Ins) (t:Int) (values:List (List Int)) (most:Nat):Nat→List Int→List (List Ev6)→List (List Ev6)
  | 0,_,out=>out
  | n + 1, reads, out =>
    if most < out.length then out
    else if (unfM th t reads (nrm th .zero) 0).2.2=false then out++[(unfM th t reads (nrm th .zero) 0).1]
    else ((values[((nextM th (unfM th t reads (nrm th .zero) 0).2.1).getD Ins.zero).loc.toNat]?).getD []).foldl (fun o v=>thrF th t values most n (reads++[v]) o) out
theorem foldl_inv {α β:Type} {f:β→α→β} {P:β→Prop} (hf:∀ b a,P b→P (f b a)) (l:List α) {b:β} (hb:P b):P (l.foldl f b):=by
  induction l generalizing b with
  | nil=>exact hb
  | cons a l ih=>exact ih (hf b a hb)
theorem thr_len {th:List Ins} {t:Int} {values:List (List Int)} {most n:Nat}:∀ reads out,out.length≤most+1→(thrF th t values most n reads out).length≤most+1:=by
  induction n with
  | zero=>intro _ _ h;exact h
  | succ n ih =>
    intro reads out ho
    rw [thrF]
    split
    · exact ho
    · split
      · simp;omega
      · exact foldl_inv (P:=fun o:List (List Ev6)=>o.length≤most+1) (fun o v ho=>ih (reads++[v]) o ho) _ ho
theorem unf_wait {th:List Ins} {t:Int}:∀ (m:Nat) (reads:List Int) (l:Lcl) (n:Nat),th.length - l.pc≤m→(unfM th t reads l n).2.2=true→reads.length < m∧∃ i,nextM th (unfM th t reads l n).2.1=some i∧(i.kind=2 ∨ i.kind=4):=by
  intro m
  induction m with
  | zero =>
    intro reads l n hm e
    rw [unf_none (by unfold nextM;rw [dif_neg (by omega)])] at e
    simp at e
  | succ m ih =>
    intro reads l n hm e
    cases en:nextM th l with
    | none=>rw [unf_none en] at e;simp at e
    | some i =>
      have hl:=(nextM_mem en).2.1
      by_cases hk:i.kind=2 ∨ i.kind=4
      · cases reads with
        | nil =>
          rw [unf_stop en hk]
          exact ⟨by simp,i,en,hk⟩
        | cons v rs =>
          rw [unf_read en hk] at e ⊢
          have:=ih rs (aftM th l v) (n+1) (by have:=aft_pc (x:=v) en;omega) e
          exact ⟨by simp;omega,this.2⟩
      · rw [unf_on en hk] at e ⊢
        have:=ih reads (aftM th l 0) (n+1) (by have:=aft_pc (x:=0) en;omega) e
        exact ⟨by omega,this.2⟩
structure ValV (h:AH) (values:List (List Int)) (vws:List Value):Prop where
  len:vws.length=4
  lenU:values.length=4
  row:∀ j (hu:j < values.length) (hv:j < vws.length),SlX 1 h values[j].length (values[j].flatMap intC) vws[j]
  small:∀ l ∈ values,l.length≤1000000
theorem ValV.xt {values:List (List Int)} {vws:List Value} (U:ValV h values vws) (x:Xt h h1):ValV h1 values vws:=⟨U.len,U.lenU,fun t hu hv=>(U.row t hu hv).xt x,U.small⟩
def ThK (lo:Nat) (h:AH) (v:Value) (R:Value→AH→Prop) (L:List (List Ev6)):Prop:=∀ h1 v1,h.next≤h1.next→Xt (Kl h [v]) (Kl h1 [v1])→NestO lo h1 L v1→R v1 h1
structure ThrG (G:Nat→SFunc):Prop extends UnfG G where
  g342:G 342=c342
def ThSp (G:Nat→SFunc) (n:Nat):Prop:=∀ (lo:Nat) (h:AH) (R:Value→AH→Prop) (p:Prg) (lv iv tv:Value) (t:Nat) (th:List Ins) (reads:List Int) (rv:Value) (values:List (List Int)) (vws:List Value) (most:Nat) (L:List (List Ev6)) (v:Value) (ht:t < p.ths.length),
  PrgV (Kl h [v]) p lv iv tv→ThOk p→p.ths[t]=th→p.locs.length≤4→SlX 1 (Kl h [v]) reads.length (reads.flatMap intC) rv→ValV (Kl h [v]) values vws→lo≤h.next→NestO lo h L v→L.length≤most+1→most≤1000000→12≤reads.length+n→reads.length≤11 →
  ThK lo h v R (thrF th t values most n reads L)→WC G 342 [.agg #[lv,iv,tv],.int .i64 t,rv,.agg vws.toArray,v,.int .i64 most] h R
def inv342 (lo:Nat) (h0:AH) (th:List Ins) (t:Nat) (values:List (List Int)) (most n:Nat) (reads row:List Int) (L:List (List Ev6)) (v rv wv:Value) (b:Nat) (mm:Nat) (F:Fr) (hh:AH):Prop :=
  ∃ (i:Nat) (LL:List (List Ev6)) (vv:Value),mm=row.length - i∧i≤row.length∧h0.next≤hh.next∧Xt (Kl h0 [v]) (Kl hh [vv])∧NestO lo hh LL vv∧LL.length≤most+1∧(row.take i).foldl (fun o x=>thrF th t values most n (reads++[x]) o) L=LL ∧
    F=[(1,.int .i64 t),(2,rv),(4,vv),(5,.int .i64 most),(6,ptrV b),(9,ptrV (b+1)),(18,wv),(19,.int .i64 i)]
set_option maxHeartbeats 4000000 in
theorem thr_step (g:ThrG G) {n:Nat} (ih:ThSp G n):ThSp G (n+1):=by
  intro lo h R p lv iv tv t th reads rv values vws most L v ht V O hth hloc S U hlo N hL hmost hn hr k
  have o:=O.ok _ (List.getElem_mem ht)
  rw [hth] at o
  obtain ⟨la,lc',hv⟩:=N.len
  obtain ⟨ra,rc,hrv⟩:=S.len
  rw [thrF] at k
  refine WC_enter g.g342 rfl ?_
  have vu:vcells (.agg vws.toArray)=some vws:=by simp [vcells]
  subst hv
  subst hrv
  simp -implicitDefEqProofs [c342,c342_body,c342_0,c342_1,ptrV,vu]
  by_cases h1:most < L.length
  · rw [if_pos h1] at k
    simp -implicitDefEqProofs [show (most:Int) < L.length by omega,h1,c342_2]
    exact k _ _ (by simp) (Kl.ext .lays) (N.ext .lays)
  · rw [if_neg h1] at k
    simp -implicitDefEqProofs [show ¬ (most:Int) < L.length by omega,h1,c342_3]
    have x2:Ext h (h.lays [.cells [lv,iv,tv] false false,.cells vws false false]):=.lays
    refine Unfold_d g.toUnfG ((V.xt Kl.xt).ext x2) O ht ((S.xt Kl.xt).ext x2).view (by omega) fun h3 ev x3 se=>?_
    have hw:=unf_wait (th:=th) (t:=t) th.length reads (nrm th .zero) 0 (by omega)
    have hul:=unf_len (th:=th) (t:=t) th.length reads (nrm th .zero) 0 (by omega)
    rw [hth] at se ⊢
    generalize unfM th t reads (nrm th .zero) 0=u at *
    obtain ⟨evs,l,stop⟩:=u
    simp only at *
    have z5:zi 5=[.int .i64 0,.int .i64 0,.int .i64 0,.int .i64 0,.int .i64 0]:=rfl
    have z9:zi 9=[.int .i64 0,.int .i64 0,.int .i64 0,.int .i64 0,.int .i64 0,.int .i64 0,.int .i64 0,.int .i64 0,.int .i64 0]:=rfl
    have lc:∀ l:Lcl,l.c=[.int .i64 l.pc,.int .i64 l.r0,.int .i64 l.r1,.int .i64 l.r2,.int .i64 l.r3]:=fun _=>rfl
    have x4:=x2.trans x3
    obtain ⟨ea,ec,rfl⟩:=se.len
    have n3:=x3.next
    simp at n3
    have gp3:h3.get h.next=.cells [lv,iv,tv] false false:=by rw [x3.get _ (by simp)];simp
    have gv3:h3.get (h.next+1)=.cells vws false false:=by rw [x3.get _ (by simp)];simp
    obtain ⟨tvs,Ns,Na⟩:=N
    have vlt:∀ {b},blkOf (.slice la L.length lc')=some b→b < h.next:=fun e=>(Ns.blk e).2
    simp -implicitDefEqProofs [Lcl.v,lc,z5,splice,c342_4]
    cases stop with
    | false =>
      simp only [if_true] at k
      simp -implicitDefEqProofs [c342_5]
      refine SlG.app ((Ns.ext x4).ext .lays) (ec:=[.slice ea evs.length ec]) (o:=0) (by simp [AH.load]) (by omega) (by omega) (by simp;omega) fun h' s' hn' hg'=>?_
      simp at hn'
      have hx:∀ y,y < h3.next→blkOf (.slice la L.length lc') ≠ some y→h'.get y=h3.get y:=fun y hy hne=>by rw [hg' y (by simp;omega) hne,AH.lays_lt (by omega)]
      simp -implicitDefEqProofs
      have xk:Xt (Kl h [.slice la L.length lc']) (Kl h' [.slice (some ⟨h3.next+2,0,some 1⟩) (L.length+1) (L.length+1)]):=Kl.chg (by omega) (fun b hb hq=>by rw [hx b (by omega) (hq _ (by simp)),x4.get b hb]) (fun v1 m1 b e=>by
        simp only [List.mem_singleton] at m1
        subst m1
        simp [blkOf] at e
        omega)
      refine k _ _ (by omega) xk ⟨tvs++[.slice ea evs.length ec],by simpa using s',All2.snoc (Na.imp fun _ _ _ _ q=>⟨q.1.xt xk,q.2⟩) ⟨?_,fun b hb=>by have:=se.blk hb;simp at this;omega⟩⟩
      refine SlX.kl (se.x.same (by omega) fun b hb=>?_) fun b hb w mw=>?_
      · have:=se.blk hb
        simp at this
        exact hx b this.2 fun e=>by have:=vlt e;omega
      · have:=se.blk hb
        simp at this
        simp only [List.mem_singleton] at mw
        subst mw
        simp [blkOf];omega
    | true =>
      simp only [Bool.true_eq_false,if_false] at k
      obtain ⟨hw1,i,hi,hk⟩:=hw rfl
      have b0:h.next < h3.next:=by omega
      have b1:h.next+1 < h3.next:=by omega
      simp -implicitDefEqProofs [c342_6,AH.lays_lt b0,gp3,AH.lays_get]
      refine Next_x g.toStepG ((V.xt Kl.xt).ext x4.lays') ht hth ?_
      obtain ⟨hm,hl,k5,k6⟩:=nextM_mem hi
      have ok:=o.1.ok i hm
      obtain ⟨j,hj,hj2⟩:∃ j:Nat,i.loc=j∧j < p.locs.length:=by
        have hp:plP p.locs.length i.loc:=by
          unfold iOk at ok
          rcases hk with e | e <;> rw [e] at ok <;> simp at ok
          · exact ok.1
          · exact ok.1
        exact ⟨i.loc.toNat,by have:=hp.1;omega,by have:=hp.1;have:=hp.2;omega⟩
      have k':ThK lo h (.slice la L.length lc') R (((values[j]?).getD []).foldl (fun o v=>thrF th t values most n (reads++[v]) o) L):=by
        rw [hi] at k
        simpa [hj] using k
      clear k
      have ju:j < values.length:=by rw [U.lenU];omega
      have jv:j < vws.length:=by rw [U.len];omega
      have Wr:=U.row j ju jv
      have hrs:=U.small _ (List.getElem_mem ju)
      rw [List.getElem?_eq_getElem ju] at k'
      simp only [Option.getD_some] at k'
      have ev':vws[j]?=some vws[j]:=List.getElem?_eq_getElem jv
      have j4:(j:Int) < 4:=by omega
      have vl:=U.len
      generalize values[j]=row at *
      generalize ew:vws[j]=w at *
      obtain ⟨wa,wc,rfl⟩:=Wr.len
      simp only [nextV,hi]
      simp -implicitDefEqProofs [Ins.v,Ins.c,z9,splice,c342_7,hj,j4,AH.lays_lt b1,gv3,ev',vl,c342_8]
      obtain ⟨h5,eh5⟩:∃ h5,h5=h3.lays [.cells [.int .i64 l.pc,.int .i64 l.r0,.int .i64 l.r1,.int .i64 l.r2,.int .i64 l.r3] false false,.cells [.int .i64 i.kind,.int .i64 i.reg,.int .i64 j,.int .i64 i.areg,.int .i64 i.aval,.int .i64 i.op,.int .i64 i.breg,.int .i64 i.bval,.int .i64 i.n] false false]:=⟨_,rfl⟩
      rw [← eh5]
      have x5:Ext h h5:=by rw [eh5];exact x4.lays'
      have n5:h5.next=h3.next+2:=by rw [eh5];simp
      have gp5:(Kl h5 [.slice la L.length lc']).get h.next=.cells [lv,iv,tv] false false:=by
        rw [Kl.get (fun v m e=>by simp only [List.mem_singleton] at m;subst m;have:=vlt e;omega),eh5,AH.lays_lt b0];exact gp3
      have gv5:(Kl h5 [.slice la L.length lc']).get (h.next+1)=.cells vws false false:=by
        rw [Kl.get (fun v m e=>by simp only [List.mem_singleton] at m;subst m;have:=vlt e;omega),eh5,AH.lays_lt b1];exact gv3
      have N5:NestO lo h5 L (.slice la L.length lc'):=NestO.ext ⟨tvs,Ns,Na⟩ x5
      clear eh5 gp3 gv3
      refine W_loop (inv342 lo h5 th t values most n reads row L (.slice la L.length lc') (.slice ra reads.length rc) (.slice wa row.length wc) h.next) row.length ⟨0,L,_,by omega,by omega,Nat.le_refl _,Xt.refl _,N5,hL,rfl,rfl⟩ ?_
      rintro mm F hh ⟨q,LL,vv,rfl,hq,nh,xt,NN,hLL,hS,rfl⟩
      have xth:Xt (Kl h [.slice la L.length lc']) (Kl hh [vv]):=(Kl.ext x5).trans xt
      have e5n:(Kl h5 [.slice la L.length lc']).next=h5.next:=rfl
      have gp:=(Kl.up (xt.get _ _ _ _ (by omega) gp5)).2
      have gv:=(Kl.up (xt.get _ _ _ _ (by omega) gv5)).2
      obtain ⟨na,nc,hvv⟩:=NN.len
      subst hvv
      simp -implicitDefEqProofs [c342_12,c342_9,ptrV]
      by_cases h6:q < row.length
      · have w1:IntKind.i64.wrap ((q:Int)+1)=((q+1:Nat):Int):=by rw [wrap64 (by omega)];rfl
        have Sh:=S.xt (xth.trans Kl.xt)
        have Wh:=Wr.xt (xth.trans Kl.xt)
        obtain ⟨b,o',sp,c0,gg,ro,rfl,hb,hg,hle,hrow,hrd⟩:=Wh.view.rd intC_length h6
        have hx:=hrd 0 Nat.one_pos
        simp [intC] at hx
        obtain ⟨hA,ehA⟩:∃ hA,hA=hh.lays [.cells [] false false,.cells [.int .i64 row[q]] false false]:=⟨_,rfl⟩
        have xA:Ext hh hA:=by rw [ehA];exact .lays
        have nA:hA.next=hh.next+2:=by rw [ehA];simp
        have nx5:=x5.next
        obtain ⟨v1,h7,v2,h8,a1,a2,a3,a4,a5,a6,a7,a8⟩:=join2 (k:=1) (bytes:=8) (m:=reads.length) (m':=1) (lo:=hh.next) (hA:=hA) (b:=hh.next) (ec:=reads.flatMap intC) (ec':=[.int .i64 row[q]]) (y:=.slice ra reads.length rc) (y':=.slice (some ⟨hh.next+1,0,none⟩) 1 1) (by omega) (by rw [ehA];simp) (by omega) (by omega)
          (Sh.ext xA) ⟨rfl,.inr ⟨hh.next+1,0,none,1,[.int .i64 row[q]],false,false,rfl,.inl rfl,Nat.le_refl _,by omega,by rw [ehA];simp,by simp,by simp⟩⟩ (by simp [blkOf]) (by omega)
        have q7:∀ y,y < hh.next→h7.get y=hh.get y:=fun y hy=>by rw [a6 y (by omega) (by omega),xA.get y hy]
        have q8:∀ y,y < hh.next→h8.get y=hh.get y:=fun y hy=>by rw [a7 y (by omega) (by omega),xA.get y hy]
        have x8:Ext hh h8:=⟨by omega,q8⟩
        have gp7:=(q7 h.next (by omega)).trans gp
        have gv7:=(q7 (h.next+1) (by omega)).trans gv
        have gp8:=(q8 h.next (by omega)).trans gp
        have gv8:=(q8 (h.next+1) (by omega)).trans gv
        have hg7:=(q7 b hb).trans hg
        have hg8:=(q8 b hb).trans hg
        have gx7:h7.get (hh.next+1)=.cells [.int .i64 row[q]] false false:=by rw [a6 _ (by omega) (by omega),ehA];simp
        have tk:List.take 4 vws=vws:=List.take_of_length_le (by omega)
        obtain ⟨nvs,Ms,Ma⟩:=id NN
        have nlt:∀ {b},blkOf (.slice na LL.length nc)=some b→b < hh.next:=fun e=>(Ms.blk e).2
        rw [ehA] at a1
        obtain ⟨va,vc,rfl⟩:=a3.x.len
        simp -implicitDefEqProofs [h6,c342_10,c342_10b,c342_11,w1,a1,a2,gp,gv,gp7,gv7,gp8,gv8,hg,hg7,hg8,hx,AH.lays_lt hb,AH.lays_lt (show h.next < hh.next by omega),AH.lays_lt (show h.next+1 < hh.next by omega),vl,gx7,tk]
        have x8k:=xth.trans (Kl.ext x8)
        refine ih lo h8 _ p lv iv tv t th (reads++[row[q]]) _ values vws most LL _ ht (V.xt x8k) O hth hloc ?_ (U.xt x8k) (by omega) (NN.ext x8) hLL hmost (by simp;omega) (by simp;omega) ?_
        · refine SlX.kl (by have:=a3.x;simpa [intC] using this) fun y hy w mw=>?_
          simp only [List.mem_singleton] at mw
          subst mw
          intro e
          have:=nlt e
          rcases a8 y hy with z | z <;> omega
        · intro h9 v9 n9 x9 N9
          have x9k:Xt (Kl hh [.slice na LL.length nc]) (Kl h9 [v9]):=(Kl.ext x8).trans x9
          simp -implicitDefEqProofs
          rw [w1]
          refine ⟨row.length - (q+1),by omega,q+1,_,v9,rfl,h6,by omega,xt.trans x9k,N9,thr_len _ _ hLL,?_,rfl⟩
          rw [List.take_succ_eq_append_getElem h6,List.foldl_append,hS]
          rfl
      · have hq':q=row.length:=by omega
        subst hq'
        rw [List.take_length] at hS
        rw [hS] at k'
        simp -implicitDefEqProofs [c342_13]
        exact k' _ _ (by have:=x5.next;omega) xth NN
theorem thr_all (g:ThrG G):∀ n,ThSp G n:=by
  intro n
  induction n with
  | zero=>intro lo h R p lv iv tv t th reads rv values vws most L v ht _ _ _ _ _ _ _ _ _ h1 h2;omega
  | succ n ih=>exact thr_step g ih
end Go.Jq
namespace Go.Jq
variable {G:Nat→SFunc} {h h0 h1:AH} {R:Value→AH→Prop}
def iniE (p:Prg) (i:Nat):Ev6:=⟨-1,i,2,i,0,intA p.init i⟩
def initsM (p:Prg):List Ev6:=(List.range p.locs.length).map (iniE p)
structure IniG (G:Nat→SFunc):Prop where
  g346:G 346=c346
  g344:G 344=c344
  g341:G 341=c341
def inv346 (h:AH) (p:Prg) (pc:List Value) (mm:Nat) (F:Fr) (hh:AH):Prop :=
  ∃ (i:Nat) (v:Value),mm=p.locs.length - i∧i≤p.locs.length∧Ext h hh∧h.next+1≤hh.next∧hh.get h.next=.cells pc false false∧SlG 6 hh (h.next+1) i (((List.range i).map (iniE p)).flatMap Ev6.c) v∧F=[(1,ptrV h.next),(3,v),(4,.int .i64 i)]
theorem Inits_d (g:IniG G) {p:Prg} {lv iv tv:Value} (V:PrgV h p lv iv tv) (hi:p.init.length=p.locs.length) (hl:p.locs.length≤1000) (k:∀ h1 v,Ext h h1→SlG 6 h1 h.next (initsM p).length ((initsM p).flatMap Ev6.c) v→R v h1):WC G 346 [.agg #[lv,iv,tv]] h R:=by
  obtain ⟨la,lc,rfl⟩:=V.locs.len
  obtain ⟨ia,ic,hiv⟩:=V.init.len
  subst hiv
  refine WC_enter g.g346 rfl ?_
  simp -implicitDefEqProofs [c346,c346_body,c346_0,c346_1,c346_2]
  refine W_loop (inv346 h p [.slice la p.locs.length lc,.slice ia p.init.length ic,tv]) p.locs.length ⟨0,_,rfl,by omega,.lays,by simp,by simp,SlG.nil,by simp [ptrV]⟩ ?_
  rintro mm F hh ⟨i,v,rfl,hi',x,hn,g0,s,rfl⟩
  simp -implicitDefEqProofs [c346_6,c346_3,ptrV,g0]
  by_cases h1:i < p.locs.length
  · have w1:IntKind.i64.wrap ((i:Int)+1)=((i+1:Nat):Int):=by rw [wrap64 (by omega)];rfl
    have V1:=(V.ext x).init
    obtain ⟨b,o,sp,c0,gg,ro,rfl,hb,hg,hle,hrow,hr⟩:=V1.rd intC_length (i:=i) (by omega)
    have hr0:=hr 0 Nat.one_pos
    have z6:zi 6=[.int .i64 0,.int .i64 0,.int .i64 0,.int .i64 0,.int .i64 0,.int .i64 0]:=rfl
    have ea:intA p.init i=p.init[i]'(by omega):=by unfold intA;rw [List.getElem?_eq_getElem (by omega)];rfl
    simp [intC,← ea] at hr0
    have hii:i < p.init.length:=by omega
    obtain ⟨va,vc,rfl⟩:=s.len
    simp -implicitDefEqProofs [h1,c346_4,g0,hg,hr0,z6,hii,splice]
    refine SlG.app (s.ext .lays) (ec:=(iniE p i).c) (o:=0) (by simp [AH.load,Ev6.c,iniE]) (by omega) (by omega) (by simp;omega) fun h' s' hn' hg'=>?_
    simp at hn'
    have hx:∀ y,y < h.next+1→h'.get y=hh.get y:=fun y hy=>by
      rw [hg' y (by simp;omega) (fun e=>by have:=s.blk e;omega),AH.lays_lt (by omega)]
    simp -implicitDefEqProofs [c346_5,w1]
    refine ⟨p.locs.length - (i+1),by omega,i+1,.slice (some ⟨hh.next+1,0,some 6⟩) (i+1) (i+1),rfl,h1,⟨by have:=x.next;omega,fun y hy=>by rw [hx y (by omega)];exact x.get y hy⟩,by omega,by rw [hx _ (by omega)];exact g0,?_,by simp [ptrV]⟩
    rw [List.range_succ,List.map_append,List.flatMap_append]
    simpa using s'
  · have:i=p.locs.length:=by omega
    subst this
    simp -implicitDefEqProofs [h1,c346_7]
    refine k _ _ x ?_
    have:=s.low (lo':=h.next) (by omega)
    simpa [initsM] using this
def rdI (i:Ins):Bool:=decide (i.kind=2) || decide (i.kind=4)
def rdsT (th:List Ins):Nat:=(th.filter rdI).length
def readsM (p:Prg):Nat:=(p.ths.map rdsT).sum
def rdsUp (p:Prg) (i:Nat):Nat:=((p.ths.take i).map rdsT).sum
theorem rdsT_take {th:List Ins} {i:Nat} (hi:i < th.length):rdsT (th.take (i+1))=rdsT (th.take i)+if rdI th[i] then 1 else 0:=by
  unfold rdsT
  rw [List.take_succ_eq_append_getElem hi,List.filter_append,List.length_append]
  by_cases h:rdI th[i] <;> simp [h]
theorem rdsT_le {th:List Ins}:rdsT th≤th.length:=List.length_filter_le ..
theorem reads_take {p:Prg} {i:Nat} (hi:i < p.ths.length):rdsUp p (i+1)=rdsUp p i+rdsT p.ths[i]:=by
  unfold rdsUp
  rw [List.take_succ_eq_append_getElem hi,List.map_append,List.sum_append_nat]
  simp
def inv341 (h:AH) (p:Prg) (B:List ABlk) (mm:Nat) (F:Fr) (hh:AH):Prop :=
  ∃ i:Nat,mm=p.ths.length - i∧i≤p.ths.length∧rdsUp p i≤i * 100∧hh=h.lays B∧F=[(1,ptrV h.next),(3,.int .i64 (rdsUp p i)),(4,.int .i64 i)]
def inv341b (h:AH) (B:List ABlk) (th:List Ins) (n i:Nat) (mm:Nat) (F:Fr) (hh:AH):Prop :=
  ∃ j:Nat,mm=th.length - j∧j≤th.length∧hh=h.lays B∧F=[(1,ptrV h.next),(3,.int .i64 (n+rdsT (th.take j):Nat)),(4,.int .i64 i),(5,.int .i64 j)]
theorem reads_d (g:IniG G) {p:Prg} {lv iv tv:Value} (V:PrgV h p lv iv tv) (hl:p.ths.length≤1000) (ht:∀ l ∈ p.ths,l.length≤11) (k:R (.int .i64 (readsM p)) h):WC G 341 [.agg #[lv,iv,tv]] h R:=by
  obtain ⟨ta,tc,rfl⟩:=V.ths.len
  refine WC_pure (WC_enter g.g341 rfl ?_)
  simp -implicitDefEqProofs [c341,c341_body,c341_0,c341_1,c341_2]
  refine W_loop (inv341 h p [.cells [lv,iv,.slice ta p.ths.length tc] false false]) p.ths.length ⟨0,by omega,by omega,by simp [rdsUp],rfl,by simp [ptrV,rdsUp]⟩ ?_
  rintro mm F hh ⟨i,rfl,hi,hs,rfl,rfl⟩
  simp -implicitDefEqProofs [c341_12,c341_3,ptrV]
  by_cases h1:i < p.ths.length
  · have w1:IntKind.i64.wrap ((i:Int)+1)=((i+1:Nat):Int):=by rw [wrap64 (by omega)];rfl
    have st:=reads_take h1
    have hle:=ht _ (List.getElem_mem h1)
    have rle:=rdsT_le (th:=p.ths[i])
    obtain ⟨b,o,sp,c,c0,gg,ro,u,e,hb,hg,hu,su⟩:=V.ths.at h1
    simp only [Value.slice.injEq,true_and] at e
    obtain ⟨rfl,rfl⟩:=e
    generalize p.ths[i]=th at *
    obtain ⟨ua,uc,rfl⟩:=su.len
    simp -implicitDefEqProofs [h1,c341_4]
    refine W_loop (inv341b h [.cells [lv,iv,.slice (some ⟨b,o,sp⟩) p.ths.length tc] false false] th (rdsUp p i) i) th.length ⟨0,by omega,by omega,rfl,by simp [ptrV,rdsT]⟩ ?_
    rintro mm F hh ⟨j,rfl,hj,rfl,rfl⟩
    simp -implicitDefEqProofs [c341_10,c341_5,ptrV,h1,AH.lays_lt hb,hg,hu]
    by_cases h2:j < th.length
    · have w2:IntKind.i64.wrap ((j:Int)+1)=((j+1:Nat):Int):=by rw [wrap64 (by omega)];rfl
      have st2:=rdsT_take h2
      have le2:=rdsT_le (th:=th.take j)
      simp at le2
      obtain ⟨b',o',sp',c0',gg',ro',rfl,hb',hg',_,_,hr⟩:=su.rd (f:=Ins.c) (fun _=>rfl) h2
      have hr0:=hr 0 (by omega)
      simp [Ins.c] at hr0
      simp -implicitDefEqProofs [h2,c341_6,h1,AH.lays_lt hb,hg,hu,AH.lays_lt hb',hg',hr0,c341_7]
      have w3:IntKind.i64.wrap ((rdsUp p i:Int)+(rdsT (th.take j):Int)+1)=((rdsUp p i+(rdsT (th.take j)+1):Nat):Int):=by rw [wrap64 (by omega)];omega
      by_cases k2:th[j].kind=2
      · rw [show rdI th[j]=true by simp [rdI,k2],if_pos rfl] at st2
        simp -implicitDefEqProofs [eq_true k2,c341_8,c341_9,w2,w3]
        exact ⟨th.length - (j+1),by omega,j+1,rfl,h2,rfl,by simp [ptrV,st2]⟩
      · by_cases k4:th[j].kind=4
        · rw [show rdI th[j]=true by simp [rdI,k4],if_pos rfl] at st2
          simp -implicitDefEqProofs [eq_false k2,eq_true k4,c341_8,c341_9,w2,w3]
          exact ⟨th.length - (j+1),by omega,j+1,rfl,h2,rfl,by simp [ptrV,st2]⟩
        · rw [show rdI th[j]=false by simp [rdI,k2,k4],if_neg (by simp)] at st2
          simp -implicitDefEqProofs [eq_false k2,eq_false k4,c341_9,w2]
          exact ⟨th.length - (j+1),by omega,j+1,rfl,h2,rfl,by simp [ptrV,st2]⟩
    · have:j=th.length:=by omega
      subst this
      simp -implicitDefEqProofs [h2,c341_11,w1]
      refine ⟨p.ths.length - (i+1),by omega,i+1,rfl,h1,by omega,rfl,?_⟩
      simp [ptrV,st]
  · have:i=p.ths.length:=by omega
    subst this
    simp -implicitDefEqProofs [h1,c341_13]
    refine ⟨.lays,?_⟩
    simpa [readsM,rdsUp] using k
def withM (s:List Int) (w:Int):List Int:=if s.any (fun x=>decide (x=w)) then s else s++[w]
def inv344 (h:AH) (v:Value) (cs:List Int) (w:Int) (mm:Nat) (F:Fr) (hh:AH):Prop :=
  ∃ j:Nat,mm=cs.length - j∧j≤cs.length∧(cs.take j).any (fun x=>decide (x=w))=false∧hh=h∧F=[(0,v),(1,.int .i64 w),(5,.int .i64 j)]
def RowO (h:AH) (cs:List Int) (v:Value):Prop:=(cs=[]∧v=.slice none 0 0) ∨ ∃ b sp g,b < h.next∧h.get b=.cells (cs.flatMap intC) g false∧(sp=none ∨ sp=some 1)∧0 < cs.length∧v=.slice (some ⟨b,0,sp⟩) cs.length cs.length
theorem fmI_len {cs:List Int}:(cs.flatMap intC).length=cs.length:=by induction cs with
  | nil=>rfl
  | cons a l ih=>simp [List.flatMap_cons,intC,ih]
theorem RowO.len {cs:List Int} {v:Value} (r:RowO h cs v):∃ a c,v=.slice a cs.length c:=by
  rcases r with ⟨rfl,rfl⟩ | ⟨b,sp,g,_,_,_,_,rfl⟩
  · exact ⟨_,_,rfl⟩
  · exact ⟨_,_,rfl⟩
theorem RowO.x {cs:List Int} {v:Value} (r:RowO h cs v):SlX 1 h cs.length (cs.flatMap intC) v:=by
  have e:(cs.flatMap intC).length=cs.length:=fmI_len
  rcases r with ⟨rfl,rfl⟩ | ⟨b,sp,g,h1,h2,h3,h4,rfl⟩
  · exact SlX.nil
  · exact ⟨by omega,.inr ⟨b,0,sp,_,_,g,false,rfl,h3,Nat.le_refl _,h1,h2,by omega,by rw [List.drop_zero,List.take_of_length_le (by omega)]⟩⟩
theorem RowO.xt {cs:List Int} {v:Value} (r:RowO h cs v) (x:Xt h h1):RowO h1 cs v:=by
  rcases r with r | ⟨b,sp,g,h1,h2,h3,h4,rfl⟩
  · exact .inl r
  · exact .inr ⟨b,sp,g,Nat.lt_of_lt_of_le h1 x.next,x.get _ _ _ _ h1 h2,h3,h4,rfl⟩
theorem RowO.lt {cs:List Int} {v:Value} (r:RowO h cs v) {b:Nat} (e:blkOf v=some b):b < h.next:=r.x.lt e
theorem RowO.app {cs:List Int} {v:Value} {w:Int} {K:Value→AH→Prop} (r:RowO h cs v) (hl:cs.length≤1000000)
    (k:∀ h1 v1,h.next≤h1.next→(∀ b,b < h.next→blkOf v ≠ some b→h1.get b=h.get b)→RowO h1 (cs++[w]) v1→(∀ b,blkOf v1=some b→h.next≤b)→K v1 h1) :
    getvh (sappend (h.lays [.cells [.int .i64 w] false false]) 1 8 v (.slice (some ⟨h.next,0,none⟩) 1 1)) K:=by
  have e:(cs.flatMap intC).length=cs.length:=fmI_len
  have hf:firstOf (h.lays [.cells [.int .i64 w] false false]) 1 1 (.slice (some ⟨h.next,0,none⟩) 1 1)=some [.int .i64 w]:=by
    show (h.lays [.cells [.int .i64 w] false false]).load h.next 0 (1 * 1)=_
    simp [AH.load]
  rcases r with ⟨rfl,rfl⟩ | ⟨b,sp,g,hb,h2,h3,h4,rfl⟩
  · have:sappend (h.lays [.cells [.int .i64 w] false false]) 1 8 (.slice none 0 0) (.slice (some ⟨h.next,0,none⟩) 1 1)=some (.slice (some ⟨h.next+1,0,some 1⟩) 1 1,(h.lays [.cells [.int .i64 w] false false]).alloc (.cells [.int .i64 w] true false)):=by
      unfold sappend
      simp only [lenOf,hf]
      simp
    rw [this,getvh_some]
    refine k _ _ (by simp) (fun b hb _=>by rw [AH.alloc_get,if_neg (by simp;omega),AH.lays_lt hb]) (.inr ⟨h.next+1,some 1,true,by simp,by simp [intC],.inr rfl,by simp,by simp⟩) (fun b hb=>by simp [blkOf] at hb;omega)
  · have h2':(h.lays [.cells [.int .i64 w] false false]).get b=.cells (cs.flatMap intC) g false:=by rw [AH.lays_lt hb];exact h2
    have hld:(h.lays [.cells [.int .i64 w] false false]).load b (0:Nat) (cs.length * 1)=some (cs.flatMap intC):=load_all h2' (by omega)
    have e2:(cs++[w]).flatMap intC=cs.flatMap intC++[.int .i64 w]:=by simp [intC]
    rcases h3 with rfl | rfl
    · have:sappend (h.lays [.cells [.int .i64 w] false false]) 1 8 (.slice (some ⟨b,0,none⟩) cs.length cs.length) (.slice (some ⟨h.next,0,none⟩) 1 1)=some (.slice (some ⟨h.next+1,0,some 1⟩) (cs.length+1) (cs.length+1),(h.lays [.cells [.int .i64 w] false false]).alloc (.cells (cs.flatMap intC++[.int .i64 w]) true false)):=by
        unfold sappend
        simp only [lenOf,hf]
        rw [if_neg (by omega),if_neg (by omega),hld,h2']
        simp
      rw [this,getvh_some]
      refine k _ _ (by simp) (fun b hb _=>by rw [AH.alloc_get,if_neg (by simp;omega),AH.lays_lt hb]) (.inr ⟨h.next+1,some 1,true,by simp,by rw [AH.alloc_get,if_pos (by simp),e2],.inr rfl,by simp,by simp⟩) (fun b hb=>by simp [blkOf] at hb;omega)
    · have:sappend (h.lays [.cells [.int .i64 w] false false]) 1 8 (.slice (some ⟨b,0,some 1⟩) cs.length cs.length) (.slice (some ⟨h.next,0,none⟩) 1 1)=some (.slice (some ⟨h.next+1,0,some 1⟩) (cs.length+1) (cs.length+1),((h.lays [.cells [.int .i64 w] false false]).put b .dead).alloc (.cells (cs.flatMap intC++[.int .i64 w]) true false)):=by
        unfold sappend
        simp only [lenOf,hf]
        rw [if_neg (by omega),if_neg (by omega),hld,h2']
        simp
      rw [this,getvh_some]
      refine k _ _ (by simp [AH.put_next]) (fun y hy hne=>by rw [AH.alloc_get,if_neg (by simp [AH.put_next];omega),AH.put_get,if_neg (fun e=>hne (by rw [e];rfl)),AH.lays_lt hy]) (.inr ⟨h.next+1,some 1,true,by simp [AH.put_next],by rw [AH.alloc_get,if_pos (by simp [AH.put_next]),e2],.inr rfl,by simp,by simp⟩) (fun b hb=>by simp [blkOf] at hb;omega)
theorem with_d (g:IniG G) {cs:List Int} {v:Value} {w:Int} (r:RowO h cs v) (hl:cs.length≤1000000)
    (k:∀ h1 v1,h.next≤h1.next→(∀ b,b < h.next→blkOf v ≠ some b→h1.get b=h.get b)→RowO h1 (withM cs w) v1→(∀ b,blkOf v1=some b→blkOf v=some b ∨ h.next≤b)→R v1 h1):WC G 344 [v,.int .i64 w] h R:=by
  obtain ⟨a,c,rfl⟩:=r.len
  refine WC_enter g.g344 rfl ?_
  simp -implicitDefEqProofs [c344,c344_body,c344_0,c344_1]
  refine W_loop (inv344 h (.slice a cs.length c) cs w) cs.length ⟨0,by omega,by omega,by simp,rfl,rfl⟩ ?_
  rintro mm F hh ⟨j,rfl,hj,hno,rfl,rfl⟩
  simp -implicitDefEqProofs [c344_6,c344_2]
  by_cases h1:j < cs.length
  · have w1:IntKind.i64.wrap ((j:Int)+1)=((j+1:Nat):Int):=by rw [wrap64 (by omega)];rfl
    have r':=r
    obtain ⟨b,o,sp,c0,gg,ro,ra,hb,hg,_,_,hr⟩:=r.x.view.rd intC_length h1
    subst ra
    have hr0:=hr 0 Nat.one_pos
    simp [intC] at hr0
    simp -implicitDefEqProofs [h1,c344_3,hg,hr0]
    by_cases h2:cs[j]=w
    · have e:withM cs w=cs:=if_pos (List.any_eq_true.mpr ⟨cs[j],List.getElem_mem h1,by simp [h2]⟩)
      rw [e] at k
      simp -implicitDefEqProofs [eq_true h2,c344_4]
      exact k _ _ (Nat.le_refl _) (fun _ _ _=>rfl) r' fun _ e=>.inl e
    · simp -implicitDefEqProofs [eq_false h2,c344_5,w1]
      refine ⟨cs.length - (j+1),by omega,j+1,rfl,h1,?_,rfl,rfl⟩
      rw [List.take_succ_eq_append_getElem h1,List.any_append,hno]
      simp [h2]
  · have:j=cs.length:=by omega
    subst this
    rw [List.take_length] at hno
    have e:withM cs w=cs++[w]:=by unfold withM;rw [hno];rfl
    rw [e] at k
    simp -implicitDefEqProofs [h1,c344_7]
    refine r.app hl fun h1 v1 n1 g1 r1 b1=>?_
    simp -implicitDefEqProofs
    exact k _ _ n1 g1 r1 fun b e=>.inr (b1 b e)
end Go.Jq
namespace Go.Jq
variable {G:Nat→SFunc} {h h0 h1:AH} {R:Value→AH→Prop}
def RowOk (l:List Ev6):Prop:=l.length≤11∧∀ e ∈ l,0≤e.loc∧e.loc < 4
theorem evt_loc {n:Nat} {i:Ins} {l:Lcl} {x:Int} (ok:iOk (plP n) i) (hn:n≤4):0≤(evtM i l x).loc∧(evtM i l x).loc < 4:=by
  have h0:i.kind=1 ∨ i.kind=2 ∨ i.kind=4→0≤i.loc∧i.loc < 4:=by
    intro e
    have:plP n i.loc:=by
      unfold iOk at ok
      rcases e with e | e | e <;> rw [e] at ok <;> simp at ok <;> exact ok.1
    exact ⟨this.1,by have:=this.2;omega⟩
  unfold evtM
  split
  · rename_i e;exact h0 (.inl e)
  · split
    · rename_i e;exact h0 (.inr (.inl e))
    · split
      · rename_i e
        split <;> exact h0 (.inr (.inr e))
      · exact ⟨by show (0:Int)≤0;omega,by show (0:Int) < 4;omega⟩
theorem unf_ok {th:List Ins} {t:Int} {n:Nat} (o:TOk (plP n) th) (hn:n≤4):∀ (m:Nat) (reads:List Int) (l:Lcl) (k:Nat),th.length - l.pc≤m→∀ e ∈ (unfM th t reads l k).1,0≤e.loc∧e.loc < 4:=by
  intro m
  induction m with
  | zero =>
    intro reads l k hm
    rw [unf_none (by unfold nextM;rw [dif_neg (by omega)])]
    simp
  | succ m ih =>
    intro reads l k hm
    cases en:nextM th l with
    | none=>rw [unf_none en];simp
    | some i =>
      have hl:=(nextM_mem en).2.1
      have hi:=o.ok i (nextM_mem en).1
      by_cases hk:i.kind=2 ∨ i.kind=4
      · cases reads with
        | nil=>rw [unf_stop en hk];simp
        | cons v rs =>
          rw [unf_read en hk]
          have:=ih rs (aftM th l v) (k+1) (by have:=aft_pc (x:=v) en;omega)
          intro e he
          rcases List.mem_cons.mp he with rfl | he
          · exact evt_loc hi hn
          · exact this e he
      · rw [unf_on en hk]
        have:=ih reads (aftM th l 0) (k+1) (by have:=aft_pc (x:=0) en;omega)
        intro e he
        rcases List.mem_cons.mp he with rfl | he
        · exact evt_loc hi hn
        · exact this e he
theorem thr_ok {th:List Ins} {t:Int} {values:List (List Int)} {most nl n:Nat} (o:TOk (plP nl) th) (hl:th.length≤11) (hn:nl≤4):∀ reads out,(∀ l ∈ out,RowOk l)→∀ l ∈ thrF th t values most n reads out,RowOk l:=by
  induction n with
  | zero=>intro _ _ h;exact h
  | succ n ih =>
    intro reads out ho
    rw [thrF]
    split
    · exact ho
    · split
      · intro l hm
        rcases List.mem_append.mp hm with hm | hm
        · exact ho l hm
        · simp only [List.mem_singleton] at hm
          subst hm
          exact ⟨Nat.le_trans (unf_len th.length _ _ _ (by omega)) hl,unf_ok o hn th.length _ _ _ (by omega)⟩
      · exact foldl_inv (P:=fun o:List (List Ev6)=>∀ l ∈ o,RowOk l) (fun o v ho=>ih (reads++[v]) o ho) _ ho
def unT (p:Prg) (vals:List (List Int)) (t:Nat):List (List Ev6):=match p.ths[t]? with
  | some th=>thrF th t vals 3000 12 [] []
  | none=>[]
def unM (p:Prg) (vals:List (List Int)):List (List (List Ev6)):=(List.range 4).map (unT p vals)
def valE (vs:List (List Int)) (e:Ev6):List (List Int):=if e.writes then vs.set e.loc.toNat (withM ((vs[e.loc.toNat]?).getD []) e.w) else vs
def valR (vs:List (List Int)) (row:List Ev6):List (List Int):=row.foldl valE vs
def valU (vs:List (List Int)) (rows:List (List Ev6)):List (List Int):=rows.foldl valR vs
def valsM (T:Nat) (un:List (List (List Ev6))) (vals:List (List Int)):List (List Int):=(List.range T).foldl (fun vs t=>valU vs (unA un t)) vals
def sumL (vals:List (List Int)):Nat:=(vals.map List.length).sum
def turnsF (p:Prg):Nat→List (List Int)→List (List (List Ev6))→Option (List (List (List Ev6)))
  | 0,_,un=>some un
  | k + 1, vals, _ =>
    if (unM p vals).any (fun l=>decide (3000 < l.length)) then none
    else if sumL (valsM p.ths.length (unM p vals) vals)=sumL vals then some (unM p vals)
    else if 200 < sumL vals then none
    else turnsF p k (valsM p.ths.length (unM p vals) vals) (unM p vals)
def valsN (p:Prg) (i:Nat):List (List Int):=(List.range 4).map fun j=>if j < i then [intA p.init j] else []
def allU (p:Prg):Option (List (List (List Ev6))):=turnsF p (readsM p+1) (valsN p p.locs.length) [[],[],[],[]]
def allM (p:Prg) (most:Nat):List Exe×Bool:=match allU p with
  | none=>([],false)
  | some un => match chF 5 p.locs.length p.ths.length 0 (initsM p) un [] most with
    | (true,L)=>(L,true)
    | (false,_)=>([],false)
theorem unA_unM {p:Prg} {vals:List (List Int)} {t:Nat} (ht:t < 4):unA (unM p vals) t=unT p vals t:=by
  unfold unA unM
  rw [List.getElem?_map,List.getElem?_range ht];rfl
theorem withM_len {s:List Int} {w:Int}:(withM s w).length≤s.length+1∧s.length≤(withM s w).length:=by
  unfold withM
  split
  · omega
  · simp
theorem sumL_set {vals:List (List Int)} {i:Nat} {r:List Int} (hi:i < vals.length):sumL (vals.set i r)+vals[i].length=sumL vals+r.length:=by
  unfold sumL
  induction vals generalizing i with
  | nil=>simp at hi
  | cons a l ih =>
    cases i with
    | zero=>simp;omega
    | succ i =>
      have:=ih (i:=i) (by simpa using hi)
      simp at this ⊢
      omega
theorem sumL_ge {vals:List (List Int)}:∀ l ∈ vals,l.length≤sumL vals:=by
  intro l hl
  unfold sumL
  induction vals with
  | nil=>simp at hl
  | cons a m ih =>
    rcases List.mem_cons.mp hl with rfl | hl
    · simp
    · have:=ih hl;simp;omega
theorem valE_sum {vs:List (List Int)} {e:Ev6}:sumL (valE vs e)≤sumL vs+1:=by
  unfold valE
  split
  · by_cases hi:e.loc.toNat < vs.length
    · have:=sumL_set (vals:=vs) (r:=withM ((vs[e.loc.toNat]?).getD []) e.w) hi
      rw [List.getElem?_eq_getElem hi,Option.getD_some] at this ⊢
      have w:=withM_len (s:=vs[e.loc.toNat]) (w:=e.w)
      omega
    · rw [List.set_eq_of_length_le (by omega)];omega
  · omega
end Go.Jq
namespace Go.Jq
variable {G:Nat→SFunc} {h h0 h1:AH}
structure AllG (G:Nat→SFunc):Prop where
  thr:ThrG G
  ini:IniG G
  ch:ChG G
  doc:DocG G
  g335:G 335=c335
def uvA (uvs:List Value) (t:Nat):Value:=(uvs[t]?).getD (.slice none 0 0)
theorem Xt.put {b:Nat} {o:ABlk} (x:Xt h h1) (hb:h.next≤b):Xt h (h1.put b o):=⟨x.next,fun y c g ro hy e=>by rw [AH.put_get,if_neg (by omega)];exact x.get y c g ro hy e⟩
theorem RowO.put {cs:List Int} {v:Value} {b:Nat} {o:ABlk} (r:RowO h cs v) (hb:∀ y,blkOf v=some y→y ≠ b):RowO (h.put b o) cs v:=by
  rcases r with r | ⟨b',sp,g,h1,h2,h3,h4,rfl⟩
  · exact .inl r
  · exact .inr ⟨b',sp,g,h1,by rw [AH.put_get,if_neg (hb b' rfl)];exact h2,h3,h4,rfl⟩
structure VS (h hh:AH) (pc:List Value) (T:Nat) (vals:List (List Int)) (vvs:List Value) (bu:Nat) (uvs:List Value):Prop where
  xt:Xt h hh
  gp:hh.get h.next=.cells pc false false
  gv:hh.get (h.next+1)=.cells vvs false false
  gu:hh.get bu=.cells uvs false false
  lu:h.next+2≤bu
  ul:bu < hh.next
  vl:vvs.length=4
  valL:vals.length=4
  row:∀ j (a:j < vals.length) (b:j < vvs.length),RowO hh vals[j] vvs[j]
  dis:∀ i j (a:i < vvs.length) (b:j < vvs.length),i ≠ j→∀ y,blkOf vvs[i]=some y→blkOf vvs[j] ≠ some y
  own:∀ v ∈ vvs,∀ y,blkOf v=some y→h.next+2≤y∧y ≠ bu
  ul4:uvs.length=4
  tail:∀ t,T≤t→uvA uvs t=.slice none 0 0
section
variable {hh:AH} {pc:List Value} {T bu:Nat} {vals:List (List Int)} {vvs uvs:List Value}
theorem VS.valV (s:VS h hh pc T vals vvs bu uvs) (hs:sumL vals≤1000000):ValV hh vals vvs:=⟨s.vl,s.valL,fun j a b=>(s.row j a b).x,fun l hl=>Nat.le_trans (sumL_ge l hl) hs⟩
theorem VS.store {uvs':List Value} (s:VS h hh pc T vals vvs bu uvs) (x:Xt hh h1) (hu:uvs'.length=4) (ht:∀ t,T≤t→uvA uvs' t=.slice none 0 0):VS h (h1.put bu (.cells uvs' false false)) pc T vals vvs bu uvs':=by
  have n1:=s.ul
  have n2:=s.lu
  have nx:=x.next
  exact { xt:=(s.xt.trans x).put (by omega)
          gp:=by rw [AH.put_get,if_neg (by omega)];exact x.get _ _ _ _ (by omega) s.gp
          gv:=by rw [AH.put_get,if_neg (by omega)];exact x.get _ _ _ _ (by omega) s.gv
          gu:=by rw [AH.put_get,if_pos rfl]
          lu:=n2
          ul:=by rw [AH.put_next];omega
          vl:=s.vl
          valL:=s.valL
          row:=fun j a b=>((s.row j a b).xt x).put fun y e=>(s.own _ (List.getElem_mem b) y e).2
          dis:=s.dis
          own:=s.own
          ul4:=hu
          tail:=ht }
end
theorem uvA_set {uvs:List Value} {t t':Nat} {v:Value} (ht:t < uvs.length):uvA (uvs.set t v) t'=if t'=t then v else uvA uvs t':=by
  unfold uvA
  rw [List.getElem?_set]
  by_cases e:t=t'
  · subst e;simp [ht]
  · rw [if_neg e,if_neg (fun x=>e x.symm)]
theorem NestO.xt {lo:Nat} {L:List (List Ev6)} {v:Value} (o:NestO lo h L v) (x:Xt h h1):NestO lo h1 L v:=by
  obtain ⟨tvs,s,a⟩:=o
  have km:Xt (Kl h [v]) (Kl h1 [v]):=⟨x.next,fun b c g ro hb e=>by
    obtain ⟨q1,q2⟩:=Kl.up e
    rw [Kl.get q1];exact x.get _ _ _ _ hb q2⟩
  refine ⟨tvs,?_,a.imp fun _ _ _ _ q=>⟨q.1.xt km,q.2⟩⟩
  obtain ⟨s1,s2⟩:=s
  refine ⟨s1,?_⟩
  rcases s2 with s2 | ⟨b,b1,b2,b3,b4⟩
  · exact .inl s2
  · exact .inr ⟨b,b1,Nat.lt_of_lt_of_le b2 x.next,x.get _ _ _ _ b2 b3,b4⟩
def F335 (h:AH) (most:Nat) (bu turn was:Nat) (r:Fr):Fr:=(1,.int .i64 most)::(2,ptrV h.next)::(6,ptrV (h.next+1))::(8,ptrV bu)::(9,.int .i64 turn)::(10,.int .i64 was)::r
def inv335u (h hs:AH) (p:Prg) (pc:List Value) (vals:List (List Int)) (vvs:List Value) (bu most turn was:Nat) (mm:Nat) (F:Fr) (hh:AH):Prop :=
  ∃ (t:Nat) (uvs:List Value),mm=p.ths.length - t∧t≤p.ths.length∧VS h hh pc p.ths.length vals vvs bu uvs∧hs.next≤hh.next∧(∀ t',t' < t→NestO hs.next hh (unT p vals t') (uvA uvs t')∧(unT p vals t').length≤3000)∧F=F335 h most bu turn was [(11,.int .i64 t)]
set_option maxHeartbeats 4000000 in
theorem loop335u (g:AllG G) {p:Prg} {lv iv tv:Value} (V:PrgV h p lv iv tv) (O:ThOk p) (hT:p.ths.length≤4) (hloc:p.locs.length≤4) {hs:AH} {vals:List (List Int)} {vvs uvs:List Value} {bu most turn was:Nat} {R:SExit→Fr→AH→Prop}
    (S:VS h hs [lv,iv,tv] p.ths.length vals vvs bu uvs) (hsum:sumL vals≤1000000)
    (k0:(∃ t,t < p.ths.length∧3000 < (unT p vals t).length)→∀ hh,Xt h hh→R .ret [(4,.slice none 0 0),(5,.bool false)] hh)
    (k1:(∀ t,t < p.ths.length→(unT p vals t).length≤3000)→∀ hh uvs,VS h hh [lv,iv,tv] p.ths.length vals vvs bu uvs→hs.next≤hh.next→(∀ t,t < p.ths.length→NestO hs.next hh (unT p vals t) (uvA uvs t))→R (.exit 4) (F335 h most bu turn was [(11,.int .i64 p.ths.length),(58,.bool false)]) hh) :
    W G (.loop [1,2,6,8,9,10,11] c335_17) (F335 h most bu turn was [(11,.int .i64 0)]) hs R:=by
  obtain ⟨ta,tc,htv⟩:=V.ths.len
  subst htv
  refine W_loop (inv335u h hs p [lv,iv,.slice ta p.ths.length tc] vals vvs bu most turn was) p.ths.length ⟨0,uvs,by omega,by omega,S,Nat.le_refl _,fun t e=>by omega,rfl⟩ ?_
  rintro mm F hh ⟨t,us,rfl,ht,st,nh,hN,rfl⟩
  have bul:=st.ul
  have lul:=st.lu
  have tk:List.take 4 vvs=vvs:=List.take_of_length_le (by rw [st.vl];omega)
  have gp:=st.gp
  have gv:=st.gv
  have gu:=st.gu
  have vl:=st.vl
  have ul4:=st.ul4
  simp -implicitDefEqProofs [F335,c335_17,c335_12,ptrV,gp]
  by_cases h1:t < p.ths.length
  · have w1:IntKind.i64.wrap ((t:Int)+1)=((t+1:Nat):Int):=by rw [wrap64 (by omega)];rfl
    simp -implicitDefEqProofs [h1,c335_13,gp,gv,tk,vl]
    have eu:unT p vals t=thrF p.ths[t] t vals 3000 12 [] []:=by unfold unT;rw [List.getElem?_eq_getElem h1]
    refine thr_all g.thr 12 hs.next hh _ p lv iv _ t p.ths[t] [] _ vals vvs 3000 [] _ h1 (V.xt (st.xt.trans Kl.nil)) O rfl hloc SlX.nil ((st.valV hsum).xt Kl.nil) nh NestO.nil (by simp) (by omega) (by simp) (by simp) ?_
    intro h3 v3 n3 x3 N3
    rw [← eu] at N3
    have x3':Xt hh h3:=Kl.nil.trans (x3.trans Kl.xt)
    have gu3:=x3'.get _ _ _ _ bul gu
    have t4:(t:Int) < 4:=by omega
    obtain ⟨na,nc,rfl⟩:=N3.len
    have tu:t < us.length:=by omega
    have st3:=st.store (uvs':=us.set t (.slice na (unT p vals t).length nc)) x3' (by simpa using ul4) fun t' e=>by rw [uvA_set tu,if_neg (by omega)];exact st.tail t' e
    have N4:NestO hs.next (h3.put bu (.cells (us.set t (.slice na (unT p vals t).length nc)) false false)) (unT p vals t) (.slice na (unT p vals t).length nc):=N3.same (by rw [AH.put_next];exact Nat.le_refl _) fun b hb _=>by rw [AH.put_get,if_neg (by have:=S.ul;omega)]
    simp -implicitDefEqProofs [t4,gu3,ul4,c335_14]
    refine ⟨by omega,?_⟩
    have gs:(us.set t (.slice na (unT p vals t).length nc))[t]?=some (.slice na (unT p vals t).length nc):=by rw [List.getElem?_set_self tu]
    simp -implicitDefEqProofs [gs]
    by_cases h2:3000 < (unT p vals t).length
    · simp -implicitDefEqProofs [show (3000:Int) < (unT p vals t).length by omega,h2,c335_15]
      exact k0 ⟨t,h1,h2⟩ _ st3.xt
    · simp -implicitDefEqProofs [show ¬ (3000:Int) < (unT p vals t).length by omega,h2,c335_16,w1]
      refine ⟨p.ths.length - (t+1),by omega,t+1,us.set t (.slice na (unT p vals t).length nc),rfl,h1,st3,by rw [AH.put_next];omega,fun t' e=>?_,rfl⟩
      rw [uvA_set tu]
      by_cases e2:t'=t
      · subst e2
        rw [if_pos rfl]
        exact ⟨N4,by omega⟩
      · rw [if_neg e2]
        have q:=hN t' (by omega)
        exact ⟨(q.1.xt x3').same (by rw [AH.put_next];exact Nat.le_refl _) fun b hb _=>by rw [AH.put_get,if_neg (by have:=S.ul;omega)],q.2⟩
  · have e:t=p.ths.length:=by omega
    subst e
    simp -implicitDefEqProofs [h1]
    refine k1 (fun t e=>(hN t e).2) hh us st nh fun t e=>(hN t e).1
end Go.Jq
namespace Go.Jq
variable {G:Nat→SFunc} {h h0 h1:AH}
theorem RowO.same {cs:List Int} {v:Value} (r:RowO h cs v) (hn:h.next≤h1.next) (hg:∀ b,blkOf v=some b→h1.get b=h.get b):RowO h1 cs v:=by
  rcases r with r | ⟨b,sp,g,h1,h2,h3,h4,rfl⟩
  · exact .inl r
  · exact .inr ⟨b,sp,g,Nat.lt_of_lt_of_le h1 hn,by rw [hg b rfl];exact h2,h3,h4,rfl⟩
section
variable {hh:AH} {pc:List Value} {T bu:Nat} {vals:List (List Int)} {vvs uvs:List Value}
theorem VS.go (s:VS h hh pc T vals vvs bu uvs) (x:Xt hh h1):VS h h1 pc T vals vvs bu uvs:=by
  have n1:=s.ul
  have n2:=s.lu
  have nx:=x.next
  exact { xt:=s.xt.trans x
          gp:=x.get _ _ _ _ (by omega) s.gp
          gv:=x.get _ _ _ _ (by omega) s.gv
          gu:=x.get _ _ _ _ (by omega) s.gu
          lu:=n2
          ul:=by omega
          vl:=s.vl
          valL:=s.valL
          row:=fun j a b=>(s.row j a b).xt x
          dis:=s.dis
          own:=s.own
          ul4:=s.ul4
          tail:=s.tail }
theorem VS.upd {i:Nat} {cs:List Int} {v v1:Value} (s:VS h hh pc T vals vvs bu uvs) (hi:i < vvs.length) (hv:vvs[i]=v) (hn:hh.next≤h1.next) (hg:∀ b,b < hh.next→blkOf v ≠ some b→h1.get b=hh.get b) (r:RowO h1 cs v1)
    (hb:∀ b,blkOf v1=some b→blkOf v=some b ∨ hh.next≤b):VS h (h1.put (h.next+1) (.cells (vvs.set i v1) false false)) pc T (vals.set i cs) (vvs.set i v1) bu uvs:=by
  have n1:=s.ul
  have n2:=s.lu
  subst hv
  have ow:∀ y,blkOf vvs[i]=some y→h.next+2≤y∧y ≠ bu:=s.own _ (List.getElem_mem hi)
  have ow1:∀ y,blkOf v1=some y→h.next+2≤y∧y ≠ bu:=fun y e=>by
    rcases hb y e with q | q
    · exact ow y q
    · omega
  have low:∀ b,b < h.next+2→h1.get b=hh.get b:=fun b hb=>hg b (by omega) fun e=>by have:=(ow b e).1;omega
  exact { xt := by
            refine Xt.put ⟨by have:=s.xt.next;omega,fun b c g ro hb e=>?_⟩ (by omega)
            rw [low b (by omega)];exact s.xt.get _ _ _ _ hb e
          gp:=by rw [AH.put_get,if_neg (by omega),low _ (by omega)];exact s.gp
          gv:=by rw [AH.put_get,if_pos rfl]
          gu:=by rw [AH.put_get,if_neg (by omega),hg _ n1 fun e=>(ow _ e).2 rfl];exact s.gu
          lu:=n2
          ul:=by rw [AH.put_next];omega
          vl:=by rw [List.length_set];exact s.vl
          valL:=by rw [List.length_set];exact s.valL
          row:=fun j a b=>by
            by_cases e:i=j
            · subst e
              simp only [List.getElem_set_self]
              exact r.put fun y e=>by have:=(ow1 y e).1;omega
            · simp only [List.getElem_set_ne e]
              rw [List.length_set] at a b
              have rj:=s.row j a b
              refine (rj.same hn fun y e2=>hg y (rj.lt e2) (s.dis j i b hi (fun x=>e x.symm) y e2)).put fun y e2=>?_
              have:=(s.own _ (List.getElem_mem b) y e2).1
              omega
          dis:=fun a b ha hb' hne y e=>by
            rw [List.length_set] at ha hb'
            by_cases e1:i=a
            · subst e1
              rw [List.getElem_set_self] at e
              rw [List.getElem_set_ne hne]
              rcases hb y e with q | q
              · exact s.dis _ _ hi hb' hne y q
              · exact fun e2=>by have:=(s.row b (by rw [s.valL,← s.vl];exact hb') hb').lt e2;omega
            · rw [List.getElem_set_ne e1] at e
              by_cases e2:i=b
              · subst e2
                rw [List.getElem_set_self]
                intro e3
                rcases hb y e3 with q | q
                · exact s.dis _ _ ha hi hne y e q
                · have:=(s.row a (by rw [s.valL,← s.vl];exact ha) ha).lt e;omega
              · rw [List.getElem_set_ne e2]
                exact s.dis a b ha hb' hne y e
          own:=fun v m y e=>by
            rcases List.mem_or_eq_of_mem_set m with m | rfl
            · exact s.own v m y e
            · exact ow1 y e
          ul4:=s.ul4
          tail:=s.tail }
end
structure VV (h hs hu hh:AH) (pc:List Value) (T:Nat) (vals:List (List Int)) (vvs:List Value) (bu:Nat) (uvs:List Value):Prop where
  s:VS h hh pc T vals vvs bu uvs
  lo:bu < hs.next
  le1:hs.next≤hu.next
  le2:hu.next≤hh.next
  ag:∀ b,hs.next≤b→b < hu.next→hh.get b=hu.get b
  sep:∀ v ∈ vvs,∀ y,blkOf v=some y→y < hs.next ∨ hu.next≤y
section
variable {hs hu hh:AH} {pc:List Value} {T bu:Nat} {vals:List (List Int)} {vvs uvs:List Value}
theorem VV.nest {L:List (List Ev6)} {v:Value} (s:VV h hs hu hh pc T vals vvs bu uvs) (o:NestO hs.next hu L v):NestO hs.next hh L v:=o.same s.le2 s.ag
theorem VV.lays {L:List ABlk} (s:VV h hs hu hh pc T vals vvs bu uvs):VV h hs hu (hh.lays L) pc T vals vvs bu uvs :=
  ⟨s.s.go Ext.lays.xt,s.lo,s.le1,by simp;have:=s.le2;omega,fun b h1 h2=>by rw [AH.lays_lt (by have:=s.le2;omega)];exact s.ag b h1 h2,s.sep⟩
theorem VV.upd {i:Nat} {cs:List Int} {v v1:Value} (s:VV h hs hu hh pc T vals vvs bu uvs) (hi:i < vvs.length) (hv:vvs[i]=v) (hn:hh.next≤h1.next) (hg:∀ b,b < hh.next→blkOf v ≠ some b→h1.get b=hh.get b) (r:RowO h1 cs v1)
    (hb:∀ b,blkOf v1=some b→blkOf v=some b ∨ hh.next≤b):VV h hs hu (h1.put (h.next+1) (.cells (vvs.set i v1) false false)) pc T (vals.set i cs) (vvs.set i v1) bu uvs:=by
  have n1:=s.s.lu
  have n2:=s.lo
  have n3:=s.le2
  have sp:∀ y,blkOf v=some y→y < hs.next ∨ hu.next≤y:=by subst hv;exact s.sep _ (List.getElem_mem hi)
  refine ⟨s.s.upd hi hv hn hg r hb,n2,s.le1,by rw [AH.put_next];omega,fun b h1 h2=>?_,fun w m y e=>?_⟩
  · rw [AH.put_get,if_neg (by omega),hg b (by omega) fun e=>by have:=sp b e;omega]
    exact s.ag b h1 h2
  · rcases List.mem_or_eq_of_mem_set m with m | rfl
    · exact s.sep w m y e
    · rcases hb y e with q | q
      · exact sp y q
      · omega
end
def inv335e (h hs hu:AH) (p:Prg) (pc:List Value) (v0:List (List Int)) (row:List Ev6) (s0 bu most turn was t i:Nat) (uvs:List Value) (mm:Nat) (F:Fr) (hh:AH):Prop :=
  ∃ (j:Nat) (vals:List (List Int)) (vvs:List Value),mm=row.length - j∧j≤row.length∧VV h hs hu hh pc p.ths.length vals vvs bu uvs∧vals=(row.take j).foldl valE v0∧sumL vals≤s0+j∧F=F335 h most bu turn was [(12,.int .i64 t),(13,.int .i64 i),(14,.int .i64 j)]
set_option maxHeartbeats 4000000 in
theorem loop335e (g:AllG G) {p:Prg} {pc:List Value} {hs hu hh:AH} {v0:List (List Int)} {vvs uvs:List Value} {s0 bu most turn was t i:Nat} {R:SExit→Fr→AH→Prop} {U:List (List Ev6)}
    (S:VV h hs hu hh pc p.ths.length v0 vvs bu uvs) (N:NestO hs.next hu U (uvA uvs t)) (ht:t < 4) (hi:i < U.length) (hU:RowOk U[i]) (hs0:sumL v0≤s0) (hs1:s0+11≤1000000)
    (k1:∀ hh vvs,VV h hs hu hh pc p.ths.length (valR v0 U[i]) vvs bu uvs→sumL (valR v0 U[i])≤s0+U[i].length→R (.exit 10) (F335 h most bu turn was [(12,.int .i64 t),(13,.int .i64 i),(14,.int .i64 U[i].length),(95,.bool false)]) hh) :
    W G (.loop [1,2,6,8,9,10,12,13,14] c335_28) (F335 h most bu turn was [(12,.int .i64 t),(13,.int .i64 i),(14,.int .i64 0)]) hh R:=by
  obtain ⟨ta,tc,htv⟩:=N.len
  refine W_loop (inv335e h hs hu p pc v0 U[i] s0 bu most turn was t i uvs) U[i].length ⟨0,v0,vvs,by omega,by omega,S,rfl,by omega,rfl⟩ ?_
  clear S
  rintro mm F hh ⟨j,vals,vvs,rfl,hj,S,hvals,hsum,rfl⟩
  have Nh:=S.nest N
  have ul4:=S.s.ul4
  have tu:t < uvs.length:=by omega
  have gu:=S.s.gu
  have eu:uvs[t]?=some (uvA uvs t):=by unfold uvA;rw [List.getElem?_eq_getElem tu];rfl
  have t4:(t:Int) < 4:=by omega
  rw [htv] at Nh eu
  obtain ⟨b,o,sp,c0,gg,ro,u,rfl,hb,hg,r0,su⟩:=Nh.x.at hi
  have hlen:=hU.1
  have hloc:=hU.2
  generalize U[i]=row at *
  obtain ⟨ua,uc,rfl⟩:=su.len
  simp -implicitDefEqProofs [F335,c335_28,c335_23,ptrV,gu,t4,eu,hi,hg,r0]
  by_cases h1:j < row.length
  · have w1:IntKind.i64.wrap ((j:Int)+1)=((j+1:Nat):Int):=by rw [wrap64 (by omega)];rfl
    obtain ⟨b',o',sp',c0',gg',ro',rfl,hb',hg',hle',hrow',hr'⟩:=su.view.rd Ev6.c_length h1
    have z6:zi 6=[.int .i64 0,.int .i64 0,.int .i64 0,.int .i64 0,.int .i64 0,.int .i64 0]:=rfl
    have hl:=hloc _ (List.getElem_mem h1)
    simp -implicitDefEqProofs [h1,c335_24,gu,t4,eu,hi,hg,r0,hg',hrow',hle',z6]
    have hvs:(row.take (j+1)).foldl valE v0=valE vals row[j]:=by rw [List.take_succ_eq_append_getElem h1,List.foldl_append,← hvals];rfl
    have hsm:=valE_sum (vs:=vals) (e:=row[j])
    generalize row[j]=e at *
    obtain ⟨q,hq,hq4⟩:∃ q:Nat,e.loc=q∧q < 4:=⟨e.loc.toNat,by omega,by omega⟩
    simp -implicitDefEqProofs [Ev6.c,splice,c335_25]
    refine Writes_d (e:=e) g.doc ?_
    cases hw:e.writes with
    | false =>
      have ev:valE vals e=vals:=by unfold valE;rw [hw];rfl
      simp -implicitDefEqProofs [c335_27,w1]
      exact ⟨row.length - (j+1),by omega,j+1,vals,vvs,rfl,h1,S.lays,by rw [hvs,ev],by omega,rfl⟩
    | true =>
      have vl:=S.s.vl
      have qv:q < vvs.length:=by omega
      have qa:q < vals.length:=by rw [S.s.valL];exact hq4
      have ev:valE vals e=vals.set q (withM vals[q] e.w):=by
        unfold valE
        rw [hw,if_pos rfl,hq,Int.toNat_natCast,List.getElem?_eq_getElem qa];rfl
      have SL:=S.lays (L:=[.cells [.int .i64 e.t,.int .i64 e.i,.int .i64 e.kind,.int .i64 q,.int .i64 e.r,.int .i64 e.w] false false])
      have gvL:=SL.s.gv
      have ew:vvs[q]?=some vvs[q]:=List.getElem?_eq_getElem qv
      have q4:(q:Int) < 4:=by omega
      simp -implicitDefEqProofs [hq,c335_26,c335_26b,gvL,q4,ew]
      have hn0:=S.s.ul
      have hn1:=S.s.lu
      refine with_d g.ini (SL.s.row q qa qv) (by have:=sumL_ge _ (List.getElem_mem qa);omega) fun h3 v3 n3 g3 r3 b3=>?_
      simp at n3
      have ge:h3.get hh.next=.cells [.int .i64 e.t,.int .i64 e.i,.int .i64 e.kind,.int .i64 q,.int .i64 e.r,.int .i64 e.w] false false:=by
        rw [g3 _ (by simp) fun e2=>by have:=(S.s.row q qa qv).lt e2;omega];simp
      have gv3:h3.get (h.next+1)=.cells vvs false false:=by
        rw [g3 _ (by simp;omega) fun e2=>by have:=(S.s.own _ (List.getElem_mem qv) _ e2).1;omega];exact gvL
      have S3:=SL.upd qv rfl (by simpa using n3) g3 r3 b3
      obtain ⟨xa,xc,rfl⟩:=r3.len
      have qv1:q+1≤vvs.length:=qv
      have es:splice vvs q [.slice xa (withM vals[q] e.w).length xc]=vvs.set q (.slice xa (withM vals[q] e.w).length xc):=by
        unfold splice
        rw [List.set_eq_take_append_cons_drop,if_pos qv];simp
      simp -implicitDefEqProofs [ge,q4,gv3,qv,c335_27,w1,qv1,es]
      rw [ev] at hvs hsm
      exact ⟨row.length - (j+1),by omega,j+1,_,_,rfl,h1,S3,hvs.symm,by omega,rfl⟩
  · have:j=row.length:=by omega
    subst this
    rw [List.take_length] at hvals
    subst hvals
    simp -implicitDefEqProofs [h1]
    exact k1 hh vvs S hsum
def inv335r (h hs hu:AH) (p:Prg) (pc:List Value) (v0:List (List Int)) (U:List (List Ev6)) (s0 bu most turn was t:Nat) (uvs:List Value) (mm:Nat) (F:Fr) (hh:AH):Prop :=
  ∃ (i:Nat) (vals:List (List Int)) (vvs:List Value),mm=U.length - i∧i≤U.length∧VV h hs hu hh pc p.ths.length vals vvs bu uvs∧vals=(U.take i).foldl valR v0∧sumL vals≤s0+11 * i∧F=F335 h most bu turn was [(12,.int .i64 t),(13,.int .i64 i)]
set_option maxHeartbeats 4000000 in
theorem loop335r (g:AllG G) {p:Prg} {pc:List Value} {hs hu hh:AH} {v0:List (List Int)} {vvs uvs:List Value} {s0 bu most turn was t:Nat} {R:SExit→Fr→AH→Prop} {U:List (List Ev6)}
    (S:VV h hs hu hh pc p.ths.length v0 vvs bu uvs) (N:NestO hs.next hu U (uvA uvs t)) (ht:t < 4) (hU:∀ l ∈ U,RowOk l) (hs0:sumL v0≤s0) (hUl:U.length≤3000) (hs1:s0+11 * U.length≤1000000)
    (k1:∀ hh vvs,VV h hs hu hh pc p.ths.length (valU v0 U) vvs bu uvs→sumL (valU v0 U)≤s0+11 * U.length→R (.exit 8) (F335 h most bu turn was [(12,.int .i64 t),(13,.int .i64 U.length),(84,.bool false)]) hh) :
    W G (.loop [1,2,6,8,9,10,12,13] c335_30) (F335 h most bu turn was [(12,.int .i64 t),(13,.int .i64 0)]) hh R:=by
  obtain ⟨ta,tc,htv⟩:=N.len
  refine W_loop (inv335r h hs hu p pc v0 U s0 bu most turn was t uvs) U.length ⟨0,v0,vvs,by omega,by omega,S,rfl,by omega,rfl⟩ ?_
  clear S
  rintro mm F hh ⟨i,vals,vvs,rfl,hi,S,hvals,hsum,rfl⟩
  have ul4:=S.s.ul4
  have tu:t < uvs.length:=by omega
  have gu:=S.s.gu
  have eu:uvs[t]?=some (uvA uvs t):=by unfold uvA;rw [List.getElem?_eq_getElem tu];rfl
  have t4:(t:Int) < 4:=by omega
  rw [htv] at eu
  simp -implicitDefEqProofs [F335,c335_30,c335_21,ptrV,gu,t4,eu]
  by_cases h1:i < U.length
  · have w1:IntKind.i64.wrap ((i:Int)+1)=((i+1:Nat):Int):=by rw [wrap64 (by omega)];rfl
    have hvs:(U.take (i+1)).foldl valR v0=valR vals U[i]:=by rw [List.take_succ_eq_append_getElem h1,List.foldl_append,← hvals];rfl
    have hro:=hU _ (List.getElem_mem h1)
    simp -implicitDefEqProofs [h1,c335_22]
    refine loop335e g (U:=U) (i:=i) (t:=t) (s0:=s0+11 * i) (most:=most) (bu:=bu) (turn:=turn) (was:=was) S N ht h1 hro hsum (by omega) fun h3 v3 S3 hs3=>?_
    simp -implicitDefEqProofs [F335,c335_29,w1,ptrV]
    refine ⟨U.length - (i+1),by omega,i+1,_,v3,rfl,h1,S3,hvs.symm,by have:=hro.1;omega,rfl⟩
  · have:i=U.length:=by omega
    subst this
    rw [List.take_length] at hvals
    subst hvals
    simp -implicitDefEqProofs [h1]
    exact k1 hh vvs S hsum
def inv335t (h hs hu:AH) (p:Prg) (pc:List Value) (v0:List (List Int)) (un:List (List (List Ev6))) (s0 bu most turn was:Nat) (uvs:List Value) (mm:Nat) (F:Fr) (hh:AH):Prop :=
  ∃ (t:Nat) (vals:List (List Int)) (vvs:List Value),mm=p.ths.length - t∧t≤p.ths.length∧VV h hs hu hh pc p.ths.length vals vvs bu uvs∧vals=(List.range t).foldl (fun vs t=>valU vs (unA un t)) v0∧sumL vals≤s0+33000 * t∧F=F335 h most bu turn was [(12,.int .i64 t)]
set_option maxHeartbeats 4000000 in
theorem loop335t (g:AllG G) {p:Prg} {lv iv tv:Value} (V:PrgV h p lv iv tv) {hs hu hh:AH} {v0:List (List Int)} {vvs uvs:List Value} {s0 bu most turn was:Nat} {R:SExit→Fr→AH→Prop} {un:List (List (List Ev6))} (hT:p.ths.length≤4)
    (S:VV h hs hu hh [lv,iv,tv] p.ths.length v0 vvs bu uvs) (N:∀ t,t < p.ths.length→NestO hs.next hu (unA un t) (uvA uvs t)) (hU:∀ t,t < p.ths.length→∀ l ∈ unA un t,RowOk l) (hs0:sumL v0≤s0) (hUl:∀ t,t < p.ths.length→(unA un t).length≤3000) (hs1:s0≤800000)
    (k1:∀ hh vvs,VV h hs hu hh [lv,iv,tv] p.ths.length (valsM p.ths.length un v0) vvs bu uvs→sumL (valsM p.ths.length un v0)≤s0+132000→R (.exit 6) (F335 h most bu turn was [(12,.int .i64 p.ths.length),(76,.bool false)]) hh) :
    W G (.loop [1,2,6,8,9,10,12] c335_32) (F335 h most bu turn was [(12,.int .i64 0)]) hh R:=by
  obtain ⟨ta,tc,htv⟩:=V.ths.len
  subst htv
  refine W_loop (inv335t h hs hu p [lv,iv,.slice ta p.ths.length tc] v0 un s0 bu most turn was uvs) p.ths.length ⟨0,v0,vvs,by omega,by omega,S,rfl,by omega,rfl⟩ ?_
  clear S
  rintro mm F hh ⟨t,vals,vvs,rfl,ht,S,hvals,hsum,rfl⟩
  have gp:=S.s.gp
  simp -implicitDefEqProofs [F335,c335_32,c335_19,ptrV,gp]
  by_cases h1:t < p.ths.length
  · have w1:IntKind.i64.wrap ((t:Int)+1)=((t+1:Nat):Int):=by rw [wrap64 (by omega)];rfl
    have hvs:(List.range (t+1)).foldl (fun vs t=>valU vs (unA un t)) v0=valU vals (unA un t):=by rw [List.range_succ,List.foldl_append,← hvals];rfl
    have hl:=hUl t h1
    simp -implicitDefEqProofs [h1,c335_20]
    refine loop335r g (U:=unA un t) (t:=t) (s0:=s0+33000 * t) (most:=most) (bu:=bu) (turn:=turn) (was:=was) S (N t h1) (by omega) (hU t h1) hsum hl (by omega) fun h3 v3 S3 hs3=>?_
    simp -implicitDefEqProofs [F335,c335_31,w1,ptrV]
    refine ⟨p.ths.length - (t+1),by omega,t+1,_,v3,rfl,h1,S3,hvs.symm,by omega,rfl⟩
  · have:t=p.ths.length:=by omega
    subst this
    subst hvals
    simp -implicitDefEqProofs [h1]
    exact k1 hh vvs S (by unfold valsM;omega)
end Go.Jq
namespace Go.Jq
variable {G:Nat→SFunc} {h h0 h1:AH}
def lenA (vals:List (List Int)) (j:Nat):Nat:=((vals[j]?).getD []).length
theorem sumL_four {vals:List (List Int)} (hl:vals.length=4):sumL vals=lenA vals 0+lenA vals 1+lenA vals 2+lenA vals 3:=by
  match vals,hl with
  | [a,b,c,d],_=>simp [sumL,lenA];omega
theorem rdsUp_le {p:Prg} (ht:∀ l ∈ p.ths,l.length≤11):∀ i,i≤p.ths.length→rdsUp p i≤11 * i:=by
  intro i
  induction i with
  | zero=>intro _;simp [rdsUp]
  | succ i ih =>
    intro hi
    rw [reads_take hi]
    have:=ih (by omega)
    have:=ht _ (List.getElem_mem hi)
    have:=rdsT_le (th:=p.ths[i])
    omega
theorem readsM_le {p:Prg} (ht:∀ l ∈ p.ths,l.length≤11):readsM p≤11 * p.ths.length:=by
  have:=rdsUp_le ht p.ths.length (Nat.le_refl _)
  unfold rdsUp at this
  rw [List.take_length] at this
  exact this
structure UO (hh:AH) (T:Nat) (un:List (List (List Ev6))) (uvs:List Value):Prop where
  len:un.length=4
  nest:∀ t,t < T→NestX Ev6.c 6 hh (unA un t) (uvA uvs t)
  small:∀ t,t < T→(unA un t).length≤3000∧∀ l ∈ unA un t,RowOk l
  rest:∀ t,T≤t→unA un t=[]
section
variable {hh:AH} {pc:List Value} {T bu:Nat} {vals:List (List Int)} {vvs uvs:List Value}
theorem VS.at (s:VS h hh pc T vals vvs bu uvs) {j:Nat} (hj:j < 4):∃ a c,vvs[j]?=some (.slice a (lenA vals j) c):=by
  have a:j < vals.length:=by rw [s.valL];exact hj
  have b:j < vvs.length:=by rw [s.vl];exact hj
  obtain ⟨x,y,e⟩:=(s.row j a b).len
  refine ⟨x,y,?_⟩
  rw [List.getElem?_eq_getElem b,e]
  unfold lenA
  rw [List.getElem?_eq_getElem a];rfl
end
def inv335 (h:AH) (p:Prg) (pc:List Value) (bu most:Nat) (mm:Nat) (F:Fr) (hh:AH):Prop :=
  ∃ (i:Nat) (vals:List (List Int)) (vvs uvs:List Value) (un:List (List (List Ev6))),mm=readsM p+1 - i∧i≤readsM p+1∧VS h hh pc p.ths.length vals vvs bu uvs∧UO hh p.ths.length un uvs∧sumL vals≤140000∧turnsF p (readsM p+1 - i) vals un=allU p∧F=[(1,.int .i64 most),(2,ptrV h.next),(6,ptrV (h.next+1)),(8,ptrV bu),(9,.int .i64 i)]
theorem unT_ok {p:Prg} {vals:List (List Int)} {t:Nat} (O:ThOk p) (hloc:p.locs.length≤4):∀ l ∈ unT p vals t,RowOk l:=by
  unfold unT
  split
  · rename_i th e
    have:=O.ok th (List.mem_of_getElem? e)
    exact thr_ok this.1 this.2 hloc [] [] (by simp)
  · simp
theorem unT_nil {p:Prg} {vals:List (List Int)} {t:Nat} (ht:p.ths.length≤t):unT p vals t=[]:=by
  unfold unT
  rw [List.getElem?_eq_none ht]
theorem unA_all {p:Prg} {vals:List (List Int)} {t:Nat} (hT:p.ths.length≤4):unA (unM p vals) t=unT p vals t:=by
  by_cases h:t < 4
  · exact unA_unM h
  · rw [unT_nil (by omega)]
    unfold unA unM
    rw [List.getElem?_eq_none (by simp;omega)];rfl
theorem un_any {p:Prg} {vals:List (List Int)} (hT:p.ths.length≤4):(unM p vals).any (fun l=>decide (3000 < l.length))=true ↔ ∃ t,t < p.ths.length∧3000 < (unT p vals t).length:=by
  unfold unM
  rw [List.any_eq_true]
  constructor
  · rintro ⟨l,hl,hd⟩
    obtain ⟨t,ht,rfl⟩:=List.mem_map.mp hl
    refine ⟨t,?_,by simpa using hd⟩
    apply Classical.byContradiction
    intro hn
    rw [unT_nil (by omega)] at hd
    simp at hd
  · rintro ⟨t,ht,hd⟩
    exact ⟨_,List.mem_map.mpr ⟨t,List.mem_range.mpr (by omega),rfl⟩,by simpa using hd⟩
set_option maxHeartbeats 4000000 in
theorem loop335 (g:AllG G) {p:Prg} {lv iv tv:Value} (V:PrgV h p lv iv tv) (O:ThOk p) (hT:p.ths.length≤4) (hloc:p.locs.length≤4) {hs:AH} {vals:List (List Int)} {vvs uvs:List Value} {bu most:Nat} {R:SExit→Fr→AH→Prop}
    (S:VS h hs [lv,iv,tv] p.ths.length vals vvs bu uvs) (U:UO hs p.ths.length [[],[],[],[]] uvs) (hsum:sumL vals≤140000) (hv:vals=valsN p p.locs.length)
    (k0:allU p=none→∀ hh,Xt h hh→R .ret [(4,.slice none 0 0),(5,.bool false)] hh)
    (k1:∀ hh vals vvs uvs un i was r,allU p=some un→VS h hh [lv,iv,tv] p.ths.length vals vvs bu uvs→UO hh p.ths.length un uvs→(r=[(9,.int .i64 i),(36,.bool false)] ∨ r=[(9,.int .i64 i),(10,.int .i64 was),(135,.bool true)])→R (.exit 2) ((1,.int .i64 most)::(2,ptrV h.next)::(6,ptrV (h.next+1))::(8,ptrV bu)::r) hh) :
    W G (.loop [1,2,6,8,9] c335_37) [(1,.int .i64 most),(2,ptrV h.next),(6,ptrV (h.next+1)),(8,ptrV bu),(9,.int .i64 0)] hs R:=by
  have rle:=readsM_le (p:=p) fun l hl=>(O.ok l hl).2
  refine W_loop (inv335 h p [lv,iv,tv] bu most) (readsM p+1) ⟨0,vals,vvs,uvs,_,by omega,by omega,S,U,hsum,by rw [hv];rfl,rfl⟩ ?_
  clear S U hsum hv
  rintro mm F hh ⟨i,vals,vvs,uvs,un,rfl,hi,S,U,hsum,hall,rfl⟩
  have gp:=S.gp
  simp -implicitDefEqProofs [c335_37,c335_9,ptrV,gp]
  refine reads_d g.ini (V.xt S.xt) (by omega) (fun l hl=>(O.ok l hl).2) ?_
  simp -implicitDefEqProofs
  by_cases h1:i≤readsM p
  · have w1:IntKind.i64.wrap ((i:Int)+1)=((i+1:Nat):Int):=by rw [wrap64 (by omega)];rfl
    have e1:readsM p+1 - i=(readsM p - i)+1:=by omega
    rw [e1,turnsF] at hall
    have gv:=S.gv
    have vl:=S.vl
    obtain ⟨a0,c0,v0⟩:=S.at (j:=0) (by omega)
    obtain ⟨a1,c1,v1⟩:=S.at (j:=1) (by omega)
    obtain ⟨a2,c2,v2⟩:=S.at (j:=2) (by omega)
    obtain ⟨a3,c3,v3⟩:=S.at (j:=3) (by omega)
    have s4:=sumL_four S.valL
    have x1:IntKind.i64.wrap ((lenA vals 0:Int)+lenA vals 1)=(lenA vals 0:Int)+lenA vals 1:=by rw [wrap64 (by omega)]
    have x2:IntKind.i64.wrap ((lenA vals 0:Int)+lenA vals 1+lenA vals 2)=(lenA vals 0:Int)+lenA vals 1+lenA vals 2:=by rw [wrap64 (by omega)]
    have x3:IntKind.i64.wrap ((lenA vals 0:Int)+lenA vals 1+lenA vals 2+lenA vals 3)=(sumL vals:Int):=by rw [wrap64 (by omega),s4];rfl
    simp -implicitDefEqProofs [h1,show (i:Int)≤readsM p by omega,c335_10,gv,v0,v1,v2,v3,x1,x2,x3,c335_11]
    refine loop335u g V O hT hloc (bu:=bu) (most:=most) (turn:=i) (was:=sumL vals) S (by omega) (fun hno hh2 x2=>?_) fun hle hh2 uvs2 S2 nh2 N2=>?_
    · rw [if_pos ((un_any hT).mpr hno)] at hall
      exact k0 hall.symm hh2 x2
    have hno:¬ (unM p vals).any (fun l=>decide (3000 < l.length))=true:=fun e=>by
      obtain ⟨t,ht,hl⟩:=(un_any hT).mp e
      have:=hle t ht
      omega
    rw [if_neg hno] at hall
    have bus:=S.ul
    have S3:VV h hh hh2 hh2 [lv,iv,tv] p.ths.length vals vvs bu uvs2:=⟨S2,bus,nh2,Nat.le_refl _,fun _ _ _=>rfl,fun v m y e=>by
      obtain ⟨j,hj,rfl⟩:=List.getElem_of_mem m
      exact .inl ((S.row j (by rw [S.valL,← vl];exact hj) hj).lt e)⟩
    simp -implicitDefEqProofs [F335,c335_18,ptrV]
    refine loop335t g V (un:=unM p vals) (bu:=bu) (most:=most) (turn:=i) (was:=sumL vals) (s0:=sumL vals) hT S3 (fun t ht=>by rw [unA_all hT];exact N2 t ht) (fun t ht=>by rw [unA_all hT];exact unT_ok O hloc) (Nat.le_refl _) (fun t ht=>by rw [unA_all hT];exact hle t ht) (by omega) fun hh4 vvs4 S4 hs4=>?_
    have U4:UO hh4 p.ths.length (unM p vals) uvs2:=⟨by simp [unM],fun t ht=>by rw [unA_all hT];exact (S4.nest (N2 t ht)).x,fun t ht=>by rw [unA_all hT];exact ⟨hle t ht,unT_ok O hloc⟩,fun t ht=>by rw [unA_all hT];exact unT_nil ht⟩
    generalize valsM p.ths.length (unM p vals) vals=vals4 at *
    generalize unM p vals=un4 at *
    have gv4:=S4.s.gv
    have vl4:=S4.s.vl
    obtain ⟨b0,d0,y0⟩:=S4.s.at (j:=0) (by omega)
    obtain ⟨b1,d1,y1⟩:=S4.s.at (j:=1) (by omega)
    obtain ⟨b2,d2,y2⟩:=S4.s.at (j:=2) (by omega)
    obtain ⟨b3,d3,y3⟩:=S4.s.at (j:=3) (by omega)
    have s44:=sumL_four S4.s.valL
    have z1:IntKind.i64.wrap ((lenA vals4 0:Int)+lenA vals4 1)=(lenA vals4 0:Int)+lenA vals4 1:=by rw [wrap64 (by omega)]
    have z2:IntKind.i64.wrap ((lenA vals4 0:Int)+lenA vals4 1+lenA vals4 2)=(lenA vals4 0:Int)+lenA vals4 1+lenA vals4 2:=by rw [wrap64 (by omega)]
    have z3:IntKind.i64.wrap ((lenA vals4 0:Int)+lenA vals4 1+lenA vals4 2+lenA vals4 3)=(sumL vals4:Int):=by rw [wrap64 (by omega),s44];rfl
    simp -implicitDefEqProofs [F335,c335_33,ptrV,gv4,y0,y1,y2,y3,z1,z2,z3]
    by_cases h2:sumL vals4=sumL vals
    · rw [if_pos h2] at hall
      simp -implicitDefEqProofs [eq_true (show (sumL vals4:Int)=sumL vals by omega)]
      exact k1 hh4 vals4 vvs4 uvs2 un4 i (sumL vals) _ hall.symm S4.s U4 (.inr rfl)
    · rw [if_neg h2] at hall
      simp -implicitDefEqProofs [eq_false (show ¬ (sumL vals4:Int)=sumL vals by omega),c335_34]
      by_cases h3:200 < sumL vals
      · rw [if_pos h3] at hall
        simp -implicitDefEqProofs [h3,show (200:Int) < sumL vals by omega,c335_35]
        exact k0 hall.symm _ S4.s.xt
      · rw [if_neg h3] at hall
        simp -implicitDefEqProofs [h3,show ¬ (200:Int) < sumL vals by omega,c335_36,w1]
        refine ⟨readsM p+1 - (i+1),by omega,i+1,vals4,vvs4,uvs2,un4,rfl,by omega,S4.s,U4,by omega,?_,by simp [ptrV]⟩
        rw [← hall]
        congr 1
        omega
  · have e0:readsM p+1 - i=0:=by omega
    rw [e0,turnsF] at hall
    simp -implicitDefEqProofs [h1,show ¬ (i:Int)≤readsM p by omega]
    exact k1 hh vals vvs uvs un i 0 _ hall.symm S U (.inl rfl)
end Go.Jq
namespace Go.Jq
variable {G:Nat→SFunc} {h h0 h1:AH} {R:Value→AH→Prop}
def OutS (h:AH) (L:List Exe) (v:Value):Prop:=(∀ x ∈ L,Sm x)∧∃ ws,SlG 3 h 0 L.length (ws.flatMap c3) v∧All2 (ExW h) L ws
theorem OutS.nil:OutS h [] (.slice none 0 0):=⟨by simp,[],SlG.nil,.nil⟩
theorem ExW.xt {x:Exe} {w:Value×Value×Value} (e:ExW h x w) (y:Xt h h1):ExW h1 x w:=ExeV.xt e y
def vvI (b i:Nat):List Value:=(List.range 4).map fun j=>if j < i then .slice (some ⟨b+(j+2),0,none⟩) 1 1 else .slice none 0 0
def rwI (p:Prg) (i:Nat):List ABlk:=(List.range i).map fun j=>.cells [.int .i64 (intA p.init j)] false false
def inv335v (h:AH) (p:Prg) (pc:List Value) (most:Nat) (mm:Nat) (F:Fr) (hh:AH):Prop :=
  ∃ i:Nat,mm=p.locs.length - i∧i≤p.locs.length∧hh=h.lays (.cells pc false false::.cells (vvI h.next i) false false::rwI p i)∧F=[(1,.int .i64 most),(2,ptrV h.next),(6,ptrV (h.next+1)),(7,.int .i64 i)]
theorem vvI_len {b i:Nat}:(vvI b i).length=4:=by simp [vvI]
theorem vvI_set {b i:Nat} (hi:i < 4):(vvI b i).set i (.slice (some ⟨b+(i+2),0,none⟩) 1 1)=vvI b (i+1):=by
  have:i=0 ∨ i=1 ∨ i=2 ∨ i=3:=by omega
  rcases this with rfl | rfl | rfl | rfl <;> rfl
theorem vvI_get {b i j:Nat} (hj:j < (vvI b i).length):(vvI b i)[j]=if j < i then .slice (some ⟨b+(j+2),0,none⟩) 1 1 else .slice none 0 0:=by
  simp [vvI]
theorem valsN_get {p:Prg} {i j:Nat} (hj:j < (valsN p i).length):(valsN p i)[j]=if j < i then [intA p.init j] else []:=by
  simp [valsN]
theorem rwI_succ {p:Prg} {i:Nat}:rwI p i++[.cells [.int .i64 (intA p.init i)] false false]=rwI p (i+1):=by
  unfold rwI
  rw [List.range_succ,List.map_append];rfl
theorem rwI_len {p:Prg} {i:Nat}:(rwI p i).length=i:=by simp [rwI]
theorem NestX0:NestX Ev6.c 6 h [] (.slice none 0 0):=⟨[],SlX.nil,.nil⟩
theorem unA0 {t:Nat}:unA [[],[],[],[]] t=[]:=by
  unfold unA
  match t with
  | 0=>rfl
  | 1=>rfl
  | 2=>rfl
  | 3=>rfl
  | n+4=>rfl
theorem uvA0 {t:Nat}:uvA [.slice none 0 0,.slice none 0 0,.slice none 0 0,.slice none 0 0] t=.slice none 0 0:=by
  unfold uvA
  match t with
  | 0=>rfl
  | 1=>rfl
  | 2=>rfl
  | 3=>rfl
  | n+4=>rfl
theorem sumN {p:Prg} {i:Nat}:sumL (valsN p i)≤140000:=by
  unfold sumL valsN
  simp [List.range_succ]
  split <;> split <;> split <;> split <;> simp
theorem vs0 {p:Prg} {hs:AH} {pc:List Value} {T:Nat} (hloc:p.locs.length≤4) (e:hs=h.lays (.cells pc false false::.cells (vvI h.next p.locs.length) false false::(rwI p p.locs.length++[.cells [.slice none 0 0,.slice none 0 0,.slice none 0 0,.slice none 0 0] false false]))) :
    VS h hs pc T (valsN p p.locs.length) (vvI h.next p.locs.length) (h.next+(p.locs.length+2)) [.slice none 0 0,.slice none 0 0,.slice none 0 0,.slice none 0 0]:=by
  have hn:hs.next=h.next+(p.locs.length+3):=by rw [e];simp [rwI_len]
  have g0:∀ j,j < p.locs.length→hs.get (h.next+(j+2))=.cells [.int .i64 (intA p.init j)] false false:=fun j hj=>by
    rw [e,AH.lays_get]
    simp [rwI]
    rw [List.getElem?_append_left (by simpa using hj),List.getElem?_map,List.getElem?_range hj];rfl
  have hx:Ext h hs:=by rw [e];exact .lays
  exact { xt:=hx.xt
          gp:=by rw [e];simp
          gv:=by rw [e];simp
          gu:=by
            rw [e,AH.lays_get]
            simp [rwI]
          lu:=by omega
          ul:=by omega
          vl:=vvI_len
          valL:=by simp [valsN]
          row:=fun j a b=>by
            rw [vvI_get b]
            rw [valsN_get a]
            by_cases hj:j < p.locs.length
            · rw [if_pos hj,if_pos hj]
              exact .inr ⟨_,none,false,by omega,by rw [g0 j hj];rfl,.inl rfl,by simp,rfl⟩
            · rw [if_neg hj,if_neg hj]
              exact .inl ⟨rfl,rfl⟩
          dis:=fun i j a b hne y=>by
            rw [vvI_get a,vvI_get b]
            split
            · split
              · simp [blkOf];omega
              · simp [blkOf]
            · simp [blkOf]
          own:=fun v m y=>by
            obtain ⟨j,hj,rfl⟩:=List.getElem_of_mem m
            rw [vvI_get hj]
            split
            · simp [blkOf];omega
            · simp [blkOf]
          ul4:=rfl
          tail:=fun t _=>uvA0 }
set_option maxHeartbeats 4000000 in
theorem All_d (g:AllG G) {p:Prg} {lv iv tv:Value} {most:Nat} (V:PrgV h p lv iv tv) (O:ThOk p) (hin:p.init.length=p.locs.length) (hT:p.ths.length≤4) (hloc:p.locs.length≤4) (hm:most≤50000)
    (k:∀ h1 v,Xt h h1→OutS h1 (allM p most).1 v→R (.tuple #[v,.bool (allM p most).2]) h1):WC G 335 [.agg #[lv,iv,tv],.int .i64 most] h R:=by
  obtain ⟨la,lc,hlv⟩:=V.locs.len
  obtain ⟨ia,ic,hiv⟩:=V.init.len
  obtain ⟨ta,tc,htv⟩:=V.ths.len
  subst hlv
  subst hiv
  subst htv
  refine WC_enter g.g335 rfl ?_
  have kn:allU p=none→∀ hh,Xt h hh→R (.tuple #[.slice none 0 0,.bool false]) hh:=fun e hh x=>by
    have:=k hh (.slice none 0 0) x
    unfold allM at this
    rw [e] at this
    exact this OutS.nil
  simp -implicitDefEqProofs [c335,c335_body,c335_0,c335_1,c335_2]
  refine W_loop (inv335v h p [.slice la p.locs.length lc,.slice ia p.init.length ic,.slice ta p.ths.length tc] most) p.locs.length ⟨0,by omega,by omega,by simp [rwI,vvI,List.range_succ],by simp [ptrV]⟩ ?_
  rintro mm F hh ⟨i,rfl,hi,rfl,rfl⟩
  simp -implicitDefEqProofs [c335_6,c335_3,ptrV]
  by_cases h1:i < p.locs.length
  · have w1:IntKind.i64.wrap ((i:Int)+1)=((i+1:Nat):Int):=by rw [wrap64 (by omega)];rfl
    have V1:=V.init
    obtain ⟨b,o,sp,c0,gg,ro,e,hb,hg,hle,hrow,hr⟩:=V1.rd intC_length (i:=i) (by omega)
    have hr0:=hr 0 Nat.one_pos
    have ea:intA p.init i=p.init[i]'(by omega):=by unfold intA;rw [List.getElem?_eq_getElem (by omega)];rfl
    simp [intC,← ea] at hr0
    have hii:i < p.init.length:=by omega
    have i4:(i:Int) < 4:=by omega
    subst e
    simp -implicitDefEqProofs [h1,c335_4,hii,AH.lays_lt hb,hg,hr0,i4,vvI_len,rwI_len]
    refine ⟨by omega,?_⟩
    rw [vvI_set (by omega),rwI_succ]
    simp -implicitDefEqProofs [c335_5,w1]
    exact ⟨p.locs.length - (i+1),by omega,i+1,rfl,h1,rfl,by simp [ptrV]⟩
  · have:i=p.locs.length:=by omega
    subst this
    simp -implicitDefEqProofs [h1,c335_7,c335_8]
    rw [rwI_len]
    obtain ⟨hs,ehs⟩:∃ hs,hs=h.lays (.cells [.slice la p.locs.length lc,.slice ia p.init.length ic,.slice ta p.ths.length tc] false false::.cells (vvI h.next p.locs.length) false false::(rwI p p.locs.length++[.cells [.slice none 0 0,.slice none 0 0,.slice none 0 0,.slice none 0 0] false false])):=⟨_,rfl⟩
    have S:=vs0 (T:=p.ths.length) hloc ehs
    rw [← ehs]
    refine loop335 g V O hT hloc S ?_ ?_ rfl (fun e hh x=>?_) fun hh vals vvs uvs un i was r e S U hr=>?_
    · exact ⟨rfl,fun t _=>by rw [unA0,uvA0];exact NestX0,fun t _=>by rw [unA0];simp,fun t _=>unA0⟩
    · exact sumN
    · simp -implicitDefEqProofs
      exact kn e hh x
    · have gp:=S.gp
      have gu:=S.gu
      have bul:=S.ul
      have b0:h.next < hh.next:=by omega
      have tk:List.take 4 uvs=uvs:=List.take_of_length_le (by rw [S.ul4];omega)
      have ul4:=S.ul4
      have key:wD G c335_39b c335_39 [(1,.int .i64 most),(2,.pointer (some ⟨h.next,0,none⟩)),(8,.pointer (some ⟨h.next+(p.locs.length+2),0,none⟩)),(16,.pointer (some ⟨hh.next,0,none⟩))] (hh.lays [.cells [.slice none 0 0] false false]) [] [] [] (keepK [16,17] (thenK (W G (((SCode.reg [16,145] c335_40).seq
                    (SCode.cond (t_ 145) ((SCode.reg [4,5] c335_41).seq SCode.ret) SCode.skip)).seq
              ((SCode.reg [4,5] c335_42).seq SCode.ret))) (retK [SRes.tmp 4,SRes.tmp 5] R))):=by
        simp -implicitDefEqProofs [c335_39,c335_39b,AH.lays_lt b0,AH.lays_lt bul,gp,gu,tk,ul4]
        refine Inits_d g.ini ((V.xt S.xt).ext .lays) hin (by omega) fun h3 ev x3 se=>?_
        have n3:=x3.next
        simp at n3
        have go3:h3.get hh.next=.cells [.slice none 0 0] false false:=by rw [x3.get _ (by simp)];simp
        have gp3:h3.get h.next=.cells [.slice la p.locs.length lc,.slice ia p.init.length ic,.slice ta p.ths.length tc] false false:=by rw [x3.get _ (by simp;omega),AH.lays_lt b0];exact gp
        have gu3:h3.get (h.next+(p.locs.length+2))=.cells uvs false false:=by rw [x3.get _ (by simp;omega),AH.lays_lt bul];exact gu
        have xs:Xt hh (Sd h3 hh.next (.slice none 0 0)):=⟨by show hh.next≤h3.next;omega,fun b c gr ro hb e=>by
          rw [Sd.get (by omega) (by simp [blkOf]),x3.get b (by simp;omega),AH.lays_lt hb];exact e⟩
        simp -implicitDefEqProofs [gp3,gu3,tk,ul4]
        have il:(initsM p).length=p.locs.length:=by simp [initsM]
        have kr:∀ bb L,chF 5 p.locs.length p.ths.length 0 (initsM p) un [] most=(bb,L)→allM p most=if bb then (L,true) else ([],false):=fun bb L e2=>by
          unfold allM
          rw [e]
          simp only [e2]
          cases bb <;> rfl
        refine ch_all g.ch 5 h3 _ hh.next most p.locs.length p.ths.length 0 [] (.slice none 0 0) _ (.slice ia p.init.length ic) _ ev (initsM p) un uvs la lc ta tc rfl rfl (by omega) (by omega) hT (by omega) (by rw [il];omega) (by simp) hm (fun t=>?_) ⟨go3,by omega,by simp [blkOf],by simp,[],SlG.nil,.nil⟩ ?_ ⟨ul4,U.len,fun t hu hv=>?_⟩ fun h5 v5 n5 x5 O5=>?_
        · by_cases ht:t < p.ths.length
          · have q:=U.small t ht
            exact ⟨fun l hl=>by have:=(q.2 l hl).1;omega,by omega⟩
          · rw [U.rest t (by omega)];simp
        · refine se.x.sd fun b hb=>?_
          have:=se.blk hb
          simp at this
          exact ⟨by omega,by simp [blkOf]⟩
        · have eu:unA un t=un[t]:=by unfold unA;rw [List.getElem?_eq_getElem hu];rfl
          have ev':uvA uvs t=uvs[t]:=by unfold uvA;rw [List.getElem?_eq_getElem hv];rfl
          by_cases ht:t < p.ths.length
          · have q:=U.nest t ht
            rw [eu,ev'] at q
            exact q.xt xs
          · have q1:=U.rest t (by omega)
            have q2:=S.tail t (by omega)
            rw [eu] at q1
            rw [ev'] at q2
            rw [q1,q2]
            exact NestX0
        · have xf:Xt h h5:=(S.xt.trans xs).trans (x5.trans Sd.xt)
          generalize hc:chF 5 p.locs.length p.ths.length 0 (initsM p) un [] most=c at *
          obtain ⟨bb,L⟩:=c
          have kr:=kr bb L rfl
          cases bb with
          | false =>
            rw [if_neg (by simp)] at kr
            rw [kr] at k
            simp -implicitDefEqProofs [c335_40,c335_41]
            exact k h5 _ xf OutS.nil
          | true =>
            rw [if_pos rfl] at kr
            rw [kr] at k
            have ga:=O5.at'
            simp -implicitDefEqProofs [c335_40,c335_42,ga]
            obtain ⟨ws,w1,w2⟩:=O5.ws
            exact k h5 v5 xf ⟨O5.sm,ws,w1,w2.imp fun _ _ _ _ q=>q.xt Sd.xt⟩
      rcases hr with rfl | rfl
      · simp -implicitDefEqProofs [c335_38,ptrV]
        exact key
      · simp -implicitDefEqProofs [c335_38,ptrV]
        exact key
end Go.Jq
namespace Go.Jq
structure ShO (nl:Nat) (x:Exe):Prop where
  rf:x.rf.length=x.evs.length
  rfo:rfOk x.evs.length x.rf
  co:∀ l ∈ x.co,∀ i ∈ l,(0:Int)≤i∧i < x.evs.length
  ne:∀ l ∈ x.co,0 < l.length
  cn:x.co.length≤nl
  le:nl≤x.evs.length
structure Shp (nl:Nat) (x:Exe):Prop extends ShO nl x where
  all:x.co.length=nl
theorem leftM_in {x:Exe}:∀ i ∈ leftM x,(0:Int)≤i∧i < x.evs.length:=by
  intro i hi
  unfold leftM leftN at hi
  obtain ⟨j,hj,rfl⟩:=List.mem_map.mp hi
  have:=List.mem_range.mp (List.mem_filter.mp hj).1
  omega
theorem intA_mem {l:List Int} {i:Nat} (h:i < l.length):intA l i ∈ l:=by
  unfold intA
  rw [List.getElem?_eq_getElem h]
  exact List.getElem_mem h
theorem fold_sh {α:Type} {P:Exe→Prop} {f:Bool×List Exe→α→Bool×List Exe} {l:List α} {s:Bool×List Exe} (hs:∀ y ∈ s.2,P y) (hf:∀ a ∈ l,∀ s:Bool×List Exe,(∀ y ∈ s.2,P y)→∀ y ∈ (f s a).2,P y):∀ y ∈ (l.foldl f s).2,P y:=by
  induction l generalizing s with
  | nil=>exact hs
  | cons a l ih=>exact ih (hf a List.mem_cons_self s hs) fun b hb=>hf b (List.mem_cons_of_mem _ hb)
theorem ord_sh {nl most:Nat} {P:Exe→Prop}:∀ n:Nat,(∀ x out,ShO nl x→(∀ co,Shp nl ⟨x.evs,x.rf,co⟩→P ⟨x.evs,x.rf,co⟩)→(∀ y ∈ out,P y)→∀ y ∈ (ordF n nl x out most).2,P y) ∧
    (∀ x row left out,ShO nl x→x.co.length < nl→0 < row.length→(∀ i ∈ row,(0:Int)≤i∧i < x.evs.length)→(∀ i ∈ left,(0:Int)≤i∧i < x.evs.length)→(∀ co,Shp nl ⟨x.evs,x.rf,co⟩→P ⟨x.evs,x.rf,co⟩)→(∀ y ∈ out,P y)→∀ y ∈ (perF n nl x row left out most).2,P y):=by
  intro n
  induction n with
  | zero=>exact ⟨fun _ _ _ _ h=>by rw [ordF];exact h,fun _ _ _ _ _ _ _ _ _ _ h=>by rw [perF];exact h⟩
  | succ n ih =>
    refine ⟨fun x out sx hP ho=>?_,fun x row left out sx hc hr0 hr hl hP ho=>?_⟩
    · rw [ordF]
      split
      · rename_i e
        intro y hy
        rcases insM_mem hy with hy | rfl
        · exact ho y hy
        · exact hP y.co ⟨sx,e⟩
      · rename_i e
        have h1:=sx.cn
        have h2:=sx.le
        refine ih.2 x _ _ out sx (by omega) (by simp) (fun i hi=>?_) leftM_in hP ho
        simp only [List.mem_singleton] at hi
        omega
    · rw [perF]
      split
      · refine ih.1 _ out ⟨sx.rf,sx.rfo,fun l hl=>?_,fun l hl=>?_,by simp;omega,sx.le⟩ hP ho
        rcases List.mem_append.mp hl with hl | hl
        · exact sx.co l hl
        · simp only [List.mem_singleton] at hl
          subst hl
          exact hr
        rcases List.mem_append.mp hl with hl | hl
        · exact sx.ne l hl
        · simp only [List.mem_singleton] at hl
          subst hl
          exact hr0
      · refine fold_sh ho fun i hi s hs=>?_
        have hi:=List.mem_range.mp hi
        split
        · refine ih.2 x _ _ _ sx hc (by simp) (fun j hj=>?_) (fun j hj=>?_) hP hs
          · rcases List.mem_append.mp hj with hj | hj
            · exact hr j hj
            · simp only [List.mem_singleton] at hj
              subst hj
              exact hl _ (intA_mem hi)
          · rcases List.mem_append.mp hj with hj | hj
            · exact hl j (List.mem_of_mem_take hj)
            · exact hl j (List.mem_of_mem_drop hj)
        · exact hs
theorem src_sh {nl most:Nat} {P:Exe→Prop} {evs:List Ev6} (hle:nl≤evs.length) (hP:∀ x,x.evs=evs→Shp nl x→P x):∀ (n:Nat) (rf:List Int) (out:List Exe),rfOk evs.length rf→(∀ y ∈ out,P y)→∀ y ∈ (srcF n nl evs rf out most).2,P y:=by
  intro n
  induction n with
  | zero=>intro _ _ _ h;rw [srcF];exact h
  | succ n ih =>
    intro rf out hr ho
    rw [srcF_eq]
    split
    · rename_i e
      split
      · exact (ord_sh 5000).1 ⟨evs,rf,[]⟩ out ⟨e,hr,by simp,by simp,by simp,hle⟩ (fun co s=>hP _ rfl s) ho
      · exact ho
    · split
      · refine fold_sh ho fun k hk s hs=>?_
        have hk:=List.mem_range.mp hk
        unfold srcSt
        split
        · refine ih _ _ (fun y hy=>?_) hs
          rcases List.mem_append.mp hy with hy | hy
          · exact hr y hy
          · simp only [List.mem_singleton] at hy
            omega
        · exact hs
      · refine ih _ _ (fun y hy=>?_) ho
        rcases List.mem_append.mp hy with hy | hy
        · exact hr y hy
        · simp only [List.mem_singleton] at hy
          omega
theorem Shp.sound {nl:Nat} {x:Exe} (s:Shp nl x) (m:Sm x):soundM x=true:=by
  unfold soundM
  simp only [Bool.and_eq_true,decide_eq_true_eq,Bool.not_eq_true',List.any_eq_false,badB,Bool.or_eq_true,not_or,Int.not_lt,Int.not_le,List.any_eq_true,not_exists,not_and]
  exact ⟨by have:=m.evs;omega,s.rf,fun i hi=>s.rfo i hi,fun l hl i hi=>s.co l hl i hi⟩
theorem Sm.ok {x:Exe} (m:Sm x):ExeOk x:=⟨by have:=m.evs;omega,by have:=m.co;omega,fun l hl=>by have:=m.rows l hl;omega⟩
end Go.Jq
namespace Go.Jq
end Go.Jq
namespace Go.Jq
variable {G:Nat→SFunc} {h h0 h1:AH} {R:Value→AH→Prop}
theorem PrgOk.th {most:Nat} {p:Prg} (o:PrgOk most p):ThOk p:=⟨fun l hl=>⟨(o.ok l hl).1,by have:=(o.ok l hl).2;omega⟩⟩
theorem OutS.ext {L:List Exe} {v:Value} (o:OutS h L v) (x:Ext h h1):OutS h1 L v:=by
  obtain ⟨o1,ws,o2,o3⟩:=o
  exact ⟨o1,ws,o2.ext x,o3.imp fun _ _ _ _ e=>e.ext x⟩
theorem OutS.at {L:List Exe} {a:Option Addr} {c:Nat} (o:OutS h L (.slice a L.length c)) {i:Nat} (hi:i < L.length):∃ b o' sp c0 g ro ev rv cv,a=some ⟨b,o',sp⟩∧b < h.next∧h.get b=.cells c0 g ro∧o'+i * 3+3≤c0.length∧(c0.drop (o'+i * 3)).take 3=[ev,rv,cv]∧ExeV h L[i] ev rv cv:=by
  obtain ⟨o1,ws,o2,o3⟩:=o
  obtain ⟨hw,e⟩:=o3.at hi
  have o2':SlV 3 h ws.length (ws.flatMap c3) (.slice a ws.length c):=by rw [← o3.len];exact o2.x.view
  obtain ⟨b,o',sp,c0,g,ro,ea,hb,hg,hle,hrow,_⟩:=o2'.rd (f:=c3) (fun _=>rfl) hw
  exact ⟨b,o',sp,c0,g,ro,_,_,_,ea,hb,hg,hle,hrow,e⟩
theorem OutS.len {L:List Exe} {v:Value} (o:OutS h L v):∃ a c,v=.slice a L.length c:=by
  obtain ⟨o1,ws,o2,o3⟩:=o
  exact o2.len
theorem all_len {p:Prg} {most:Nat}:(allM p most).1.length≤most:=by
  unfold allM
  split
  · simp
  · split
    · rename_i un _ _ L e
      have:=ch_len (n:=5) p.locs.length p.ths.length 0 (initsM p) un [] most (by simp) (by rw [e])
      rw [e] at this
      exact this
    · simp
end Go.Jq
