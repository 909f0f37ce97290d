/- The document's order of executions. -/
import Derived.Test.YtgilednciofkiaaGreatDoorH2
import Derived.Test.YtgilednciofkiaaGreatDoorC
import Derived.Test.YtgilednciofkiaaGreatDoorC1
set_option linter.unusedSimpArgs false
set_option linter.unusedVariables false
namespace Go.Jq
variable {G:Nat→SFunc} {h:AH} {R:Value→AH→Prop}
def befM (a b:Int):Int:=if a < b then -1 else if b < a then 1 else 0
def rowsM:List Int→List Int→Int
  | [],[]=>0
  | [],_::_=>-1
  | _::_,[]=>1
  | a::l,b::m=>if befM a b ≠ 0 then befM a b else rowsM l m
def fnz:List Int→Int
  | []=>0
  | a::l=>if a ≠ 0 then a else fnz l
def evM (a b:Ev6):Int:=fnz [befM a.t b.t,befM a.i b.i,befM a.kind b.kind,befM a.loc b.loc,befM a.r b.r,befM a.w b.w]
def evsM:List Ev6→List Ev6→Int
  | [],[]=>0
  | [],_::_=>-1
  | _::_,[]=>1
  | a::l,b::m=>if evM a b ≠ 0 then evM a b else evsM l m
def coM:List (List Int)→List (List Int)→Int
  | [],[]=>0
  | [],_::_=>-1
  | _::_,[]=>1
  | a::l,b::m=>if rowsM a b ≠ 0 then rowsM a b else coM l m
def cmpM (x y:Exe):Int:=if evsM x.evs y.evs ≠ 0 then evsM x.evs y.evs else if rowsM x.rf y.rf ≠ 0 then rowsM x.rf y.rf else coM x.co y.co
structure CmpG (G:Nat→SFunc):Prop where
  g351:G 351=c351
  g350:G 350=c350
  g349:G 349=c349
  g340:G 340=c340
theorem before_s (g:CmpG G) {a b:Int} (k:R (.int .i64 (befM a b)) h):WC G 351 [.int .i64 a,.int .i64 b] h R:=by
  unfold befM at k
  by_cases h1:a < b
  · rw [if_pos h1] at k
    refine WC_enter g.g351 rfl ?_
    simp -implicitDefEqProofs [c351,c351_body,c351_0,c351_1,h1,c351_2]
    exact k
  · rw [if_neg h1] at k
    by_cases h2:b < a
    · rw [if_pos h2] at k
      refine WC_enter g.g351 rfl ?_
      simp -implicitDefEqProofs [c351,c351_body,c351_0,c351_1,h1,c351_3,h2,c351_4]
      exact k
    · rw [if_neg h2] at k
      refine WC_enter g.g351 rfl ?_
      simp -implicitDefEqProofs [c351,c351_body,c351_0,c351_1,h1,c351_3,h2,c351_5]
      exact k
theorem drop_two {α:Type} {l:List α} {j:Nat} (h:j < l.length):l.drop j=l[j]::l.drop (j+1):=List.drop_eq_getElem_cons h
theorem rows_end {l m:List Int} (h:¬ (0 < l.length∧0 < m.length)):rowsM l m=befM l.length m.length:=by
  cases l <;> cases m <;> simp [rowsM,befM] at h ⊢ <;> omega
theorem evs_end {l m:List Ev6} (h:¬ (0 < l.length∧0 < m.length)):evsM l m=befM l.length m.length:=by
  cases l <;> cases m <;> simp [evsM,befM] at h ⊢ <;> omega
theorem co_end {l m:List (List Int)} (h:¬ (0 < l.length∧0 < m.length)):coM l m=befM l.length m.length:=by
  cases l <;> cases m <;> simp [coM,befM] at h ⊢ <;> omega
theorem bef_sub {a b j:Nat} (ha:j≤a) (hb:j≤b):befM ((a - j:Nat):Int) ((b - j:Nat):Int)=befM a b:=by
  unfold befM
  by_cases h1:a < b
  · rw [if_pos (by omega),if_pos (by omega)]
  · by_cases h2:b < a
    · rw [if_neg (by omega),if_pos (by omega),if_neg (by omega),if_pos (by omega)]
    · rw [if_neg (by omega),if_neg (by omega),if_neg (by omega),if_neg (by omega)]
def inv350 (h:AH) (u v:Value) (l m:List Int) (mm:Nat) (F:Fr) (hh:AH):Prop :=
  ∃ j:Nat,mm=l.length - j∧j≤l.length∧j≤m.length∧rowsM (l.drop j) (m.drop j)=rowsM l m∧hh=h∧F=[(0,u),(1,v),(5,.int .i64 j)]
theorem rows_s (g:CmpG G) {l m:List Int} {u v:Value} (sl:SlV 1 h l.length (l.flatMap intC) u) (sm:SlV 1 h m.length (m.flatMap intC) v) (hl:l.length≤9223372036854775806) (k:R (.int .i64 (rowsM l m)) h):WC G 350 [u,v] h R:=by
  obtain ⟨ua,uc,rfl⟩:=sl.len
  obtain ⟨va,vc,rfl⟩:=sm.len
  refine WC_enter g.g350 rfl ?_
  simp -implicitDefEqProofs [c350,c350_body,c350_0,c350_1]
  refine W_loop (inv350 h (.slice ua l.length uc) (.slice va m.length vc) l m) l.length ⟨0,rfl,by omega,by omega,rfl,rfl,rfl⟩ ?_
  rintro mm F hh ⟨j,rfl,hj,hj',hr,rfl,rfl⟩
  simp -implicitDefEqProofs [c350_7]
  generalize eQ:wO G c350_2 _ _ _=Q
  have fin:¬ (j < l.length∧j < m.length)→rowsM l m=befM l.length m.length:=fun h=>by
    rw [← hr,rows_end (by simp;omega),List.length_drop,List.length_drop,bef_sub hj hj']
  by_cases h1:j < l.length
  · by_cases h2:j < m.length
    · obtain ⟨b,o,sp,c0,gg,ro,rfl,hb,hg,_,_,r1⟩:=sl.rd intC_length h1
      obtain ⟨b',o',sp',c0',gg',ro',rfl,hb',hg',_,_,r2⟩:=sm.rd intC_length h2
      have r1:=r1 0 (by omega)
      have r2:=r2 0 (by omega)
      simp only [intC,Nat.add_zero,List.getElem?_cons_zero,Nat.mul_one] at r1 r2
      have w1:IntKind.i64.wrap ((j:Int)+1)=((j+1:Nat):Int):=by rw [wrap64 (by omega)];rfl
      have st:rowsM (l.drop j) (m.drop j)=if befM l[j] m[j] ≠ 0 then befM l[j] m[j] else rowsM (l.drop (j+1)) (m.drop (j+1)):=by rw [drop_two h1,drop_two h2];rfl
      subst eQ
      simp -implicitDefEqProofs [c350_2,h1,h2,c350_3,c350_3b,hg,hg',r1,r2]
      refine before_s g ?_
      simp -implicitDefEqProofs [h1,h2,hg,hg',r1,r2]
      generalize eQ:wO G c350_4 _ _ _=Q
      by_cases h3:befM l[j] m[j]=0
      · rw [if_neg (by simp [h3])] at st
        subst eQ
        simp -implicitDefEqProofs [c350_4,h3,c350_6,w1]
        exact ⟨l.length - (j+1),by omega,j+1,rfl,by omega,by omega,by rw [← st,hr],rfl,by simp⟩
      · rw [if_pos h3] at st
        subst eQ
        simp -implicitDefEqProofs [c350_4,h3,c350_5]
        rw [← hr,st] at k
        exact k
    · have e:m.length=j:=by omega
      rw [fin (by omega)] at k
      subst eQ
      simp -implicitDefEqProofs [c350_2,h1,h2,c350_8]
      exact before_s g k
  · rw [fin (by omega)] at k
    subst eQ
    simp -implicitDefEqProofs [c350_2,h1,c350_8]
    exact before_s g k
def inv349 (h:AH) (u v:Value) (l m:List Ev6) (mm:Nat) (F:Fr) (hh:AH):Prop :=
  ∃ j:Nat,mm=l.length - j∧j≤l.length∧j≤m.length∧evsM (l.drop j) (m.drop j)=evsM l m∧hh=h.lays []∧F=[(0,u),(1,v),(5,.int .i64 j)]
def inv349b (h:AH) (u v:Value) (j:Nat) (B:List ABlk) (s:List Int) (mm:Nat) (F:Fr) (hh:AH):Prop :=
  ∃ k:Nat,mm=6 - k∧k≤6∧fnz (s.drop k)=fnz s∧hh=h.lays B∧F=[(0,u),(1,v),(5,.int .i64 j),(8,.pointer (some ⟨h.next+2,0,none⟩)),(9,.int .i64 k)]
theorem evs_s (g:CmpG G) {l m:List Ev6} {u v:Value} (sl:SlV 6 h l.length (l.flatMap Ev6.c) u) (sm:SlV 6 h m.length (m.flatMap Ev6.c) v) (hl:l.length≤9223372036854775806) (k:R (.int .i64 (evsM l m)) h):WC G 349 [u,v] h R:=by
  obtain ⟨ua,uc,rfl⟩:=sl.len
  obtain ⟨va,vc,rfl⟩:=sm.len
  refine WC_pure (WC_enter g.g349 rfl ?_)
  simp -implicitDefEqProofs [c349,c349_body,c349_0,c349_1]
  refine W_loopg (inv349 h (.slice ua l.length uc) (.slice va m.length vc) l m) l.length ⟨0,rfl,by omega,by omega,rfl,by simp,rfl⟩ ?_
  rintro mm F hh ⟨j,rfl,hj,hj',hr,rfl,rfl⟩
  simp only [AH.lays_nil]
  simp -implicitDefEqProofs [c349_12]
  generalize eQ:wO G c349_2 _ _ _=Q
  have fin:¬ (j < l.length∧j < m.length)→evsM l m=befM l.length m.length:=fun h=>by
    rw [← hr,evs_end (by simp;omega),List.length_drop,List.length_drop,bef_sub hj hj']
  by_cases h1:j < l.length
  · by_cases h2:j < m.length
    · obtain ⟨b,o,sp,c0,gg,ro,rfl,hb,hg,hle,hrow,_⟩:=sl.rd Ev6.c_length h1
      obtain ⟨b',o',sp',c0',gg',ro',rfl,hb',hg',hle',hrow',_⟩:=sm.rd Ev6.c_length h2
      have w1:IntKind.i64.wrap ((j:Int)+1)=((j+1:Nat):Int):=by rw [wrap64 (by omega)];rfl
      have st:evsM (l.drop j) (m.drop j)=if evM l[j] m[j] ≠ 0 then evM l[j] m[j] else evsM (l.drop (j+1)) (m.drop (j+1)):=by rw [drop_two h1,drop_two h2];rfl
      generalize l[j]=x at *
      generalize m[j]=y at *
      have z6:zi 6=[.int .i64 0,.int .i64 0,.int .i64 0,.int .i64 0,.int .i64 0,.int .i64 0]:=rfl
      have q1:¬ b=h.next:=by omega
      have q2:¬ b'=h.next:=by omega
      have q3:¬ b=h.next+1:=by omega
      have q4:¬ b'=h.next+1:=by omega
      subst eQ
      simp -implicitDefEqProofs [c349_2,h1,h2,c349_3,c349_3b,AH.lays_lt hb,AH.lays_lt hb',hg,hg',hle,hle',hrow,hrow',Ev6.c,z6,splice,q1,q2,q3,q4]
      simp -implicitDefEqProofs [c349_4,c349_4b,z6]
      refine before_s g ?_
      simp -implicitDefEqProofs [z6]
      refine before_s g ?_
      simp -implicitDefEqProofs [z6]
      refine before_s g ?_
      simp -implicitDefEqProofs [z6]
      refine before_s g ?_
      simp -implicitDefEqProofs [z6]
      refine before_s g ?_
      simp -implicitDefEqProofs [z6]
      refine before_s g ?_
      simp -implicitDefEqProofs [z6,splice]
      have ev:evM x y=fnz [befM x.t y.t,befM x.i y.i,befM x.kind y.kind,befM x.loc y.loc,befM x.r y.r,befM x.w y.w]:=rfl
      rw [ev] at st
      generalize befM x.t y.t=s0 at *
      generalize befM x.i y.i=s1 at *
      generalize befM x.kind y.kind=s2 at *
      generalize befM x.loc y.loc=s3 at *
      generalize befM x.r y.r=s4 at *
      generalize befM x.w y.w=s5 at *
      simp -implicitDefEqProofs [c349_5]
      generalize hX:ABlk.cells [Value.int IntKind.i64 x.t,Value.int IntKind.i64 x.i,Value.int IntKind.i64 x.kind,Value.int IntKind.i64 x.loc,Value.int IntKind.i64 x.r,Value.int IntKind.i64 x.w] false false=X
      generalize hY:ABlk.cells [Value.int IntKind.i64 y.t,Value.int IntKind.i64 y.i,Value.int IntKind.i64 y.kind,Value.int IntKind.i64 y.loc,Value.int IntKind.i64 y.r,Value.int IntKind.i64 y.w] false false=Y
      refine W_loop (inv349b h (.slice (some ⟨b,o,sp⟩) l.length uc) (.slice (some ⟨b',o',sp'⟩) m.length vc) j [X,Y,.cells [.int .i64 s0,.int .i64 s1,.int .i64 s2,.int .i64 s3,.int .i64 s4,.int .i64 s5] false false] [s0,s1,s2,s3,s4,s5]) 6 ⟨0,rfl,by omega,rfl,rfl,rfl⟩ ?_
      rintro mm F hh ⟨k',rfl,hk',hf,rfl,rfl⟩
      simp -implicitDefEqProofs [c349_10,c349_6]
      by_cases h6:k' < 6
      · have w6:IntKind.i64.wrap ((k':Int)+1)=((k'+1:Nat):Int):=by rw [wrap64 (by omega)];rfl
        have get:([Value.int IntKind.i64 s0,.int .i64 s1,.int .i64 s2,.int .i64 s3,.int .i64 s4,.int .i64 s5])[k']?=some (.int .i64 (intA [s0,s1,s2,s3,s4,s5] k')):=by
          have:k'=0 ∨ k'=1 ∨ k'=2 ∨ k'=3 ∨ k'=4 ∨ k'=5:=by omega
          rcases this with rfl | rfl | rfl | rfl | rfl | rfl <;> rfl
        have sd:fnz ([s0,s1,s2,s3,s4,s5].drop k')=if intA [s0,s1,s2,s3,s4,s5] k' ≠ 0 then intA [s0,s1,s2,s3,s4,s5] k' else fnz ([s0,s1,s2,s3,s4,s5].drop (k'+1)):=by
          have:k'=0 ∨ k'=1 ∨ k'=2 ∨ k'=3 ∨ k'=4 ∨ k'=5:=by omega
          rcases this with rfl | rfl | rfl | rfl | rfl | rfl <;> rfl
        rw [hf] at sd
        generalize hS:[s0,s1,s2,s3,s4,s5]=S at *
        generalize intA S k'=a at *
        generalize hC:[Value.int IntKind.i64 s0,.int .i64 s1,.int .i64 s2,.int .i64 s3,.int .i64 s4,.int .i64 s5]=C at *
        simp -implicitDefEqProofs [h6,show (k':Int) < 6 by omega]
        generalize eQ:wO G c349_7 _ _ _=Q
        by_cases h7:a=0
        · rw [if_neg (by simp [h7])] at sd
          subst eQ
          simp -implicitDefEqProofs [c349_7,show (k':Int) < 6 by omega,get,h7,c349_9,w6]
          exact ⟨6 - (k'+1),by omega,k'+1,rfl,by omega,sd.symm,rfl,by simp⟩
        · rw [if_pos h7] at sd
          rw [sd,if_pos h7] at st
          subst eQ
          simp -implicitDefEqProofs [c349_7,show (k':Int) < 6 by omega,get,h7,c349_8,Ext.lays]
          rw [← hr,st] at k
          exact k
      · have e:k'=6:=by omega
        subst e
        rw [← hf,if_neg (by simp [fnz])] at st
        simp -implicitDefEqProofs [c349_11,w1]
        refine gcK_lays0 ⟨by simp,?_⟩
        exact ⟨l.length - (j+1),by omega,j+1,rfl,by omega,by omega,by rw [← st,hr],by simp,by simp⟩
    · rw [fin (by omega)] at k
      subst eQ
      simp -implicitDefEqProofs [c349_2,h1,h2,c349_13]
      refine before_s g ?_
      simp -implicitDefEqProofs [Ext.refl]
      exact k
  · rw [fin (by omega)] at k
    subst eQ
    simp -implicitDefEqProofs [c349_2,h1,c349_13]
    refine before_s g ?_
    simp -implicitDefEqProofs [Ext.refl]
    exact k
end Go.Jq
namespace Go.Jq
variable {G:Nat→SFunc} {h:AH} {R:Value→AH→Prop}
def inv340 (h:AH) (x y:Exe) (xc yc:List Value) (mm:Nat) (F:Fr) (hh:AH):Prop :=
  ∃ j:Nat,mm=x.co.length - j∧j≤x.co.length∧j≤y.co.length∧coM (x.co.drop j) (y.co.drop j)=coM x.co y.co∧hh=h.lays [.cells xc false false,.cells yc false false]∧F=[(2,.pointer (some ⟨h.next,0,none⟩)),(3,.pointer (some ⟨h.next+1,0,none⟩)),(7,.int .i64 j)]
theorem Cmp_s (g:CmpG G) {x y:Exe} {ev rv cv ev' rv' cv':Value} (X:ExeV h x ev rv cv) (Y:ExeV h y ev' rv' cv') (he:x.evs.length≤9223372036854775806) (hr:x.rf.length≤9223372036854775806) (hc:x.co.length≤9223372036854775806) (hl:∀ l ∈ x.co,l.length≤9223372036854775806)
    (k:R (.int .i64 (cmpM x y)) h):WC G 340 [.agg #[ev,rv,cv],.agg #[ev',rv',cv']] h R:=by
  obtain ⟨ca,cc,rfl⟩:=X.co.len
  obtain ⟨da,dc,rfl⟩:=Y.co.len
  refine WC_pure (WC_enter g.g340 rfl ?_)
  unfold cmpM at k
  simp -implicitDefEqProofs [c340,c340_body,c340_0,c340_1]
  refine evs_s g (X.evs.ext .lays) (Y.evs.ext .lays) he ?_
  simp -implicitDefEqProofs
  generalize evsM x.evs y.evs=e1 at *
  generalize eQ:wO G c340_2 _ _ _=Q
  by_cases h1:e1=0
  · rw [if_neg (by simp [h1])] at k
    subst eQ
    simp -implicitDefEqProofs [c340_2,h1,c340_4]
    refine rows_s g (X.rf.ext .lays) (Y.rf.ext .lays) hr ?_
    simp -implicitDefEqProofs
    generalize rowsM x.rf y.rf=e2 at *
    generalize eQ:wO G c340_5 _ _ _=Q
    by_cases h2:e2=0
    · rw [if_neg (by simp [h2])] at k
      subst eQ
      simp -implicitDefEqProofs [c340_5,h2,c340_7]
      refine W_loop (inv340 h x y [ev,rv,.slice ca x.co.length cc] [ev',rv',.slice da y.co.length dc]) x.co.length ⟨0,rfl,by omega,by omega,rfl,rfl,rfl⟩ ?_
      rintro mm F hh ⟨j,rfl,hj,hj',hr,rfl,rfl⟩
      simp -implicitDefEqProofs [c340_13]
      generalize eQ:wO G c340_8 _ _ _=Q
      have fin:¬ (j < x.co.length∧j < y.co.length)→coM x.co y.co=befM x.co.length y.co.length:=fun h=>by
        rw [← hr,co_end (by simp;omega),List.length_drop,List.length_drop,bef_sub hj hj']
      by_cases q1:j < x.co.length
      · by_cases q2:j < y.co.length
        · obtain ⟨b,o,sp,c0,gg,ro,u,rfl,hb,hg,r1,su⟩:=X.co.at q1
          obtain ⟨b',o',sp',c0',gg',ro',u',rfl,hb',hg',r2,su'⟩:=Y.co.at q2
          have w1:IntKind.i64.wrap ((j:Int)+1)=((j+1:Nat):Int):=by rw [wrap64 (by omega)];rfl
          have st:coM (x.co.drop j) (y.co.drop j)=if rowsM x.co[j] y.co[j] ≠ 0 then rowsM x.co[j] y.co[j] else coM (x.co.drop (j+1)) (y.co.drop (j+1)):=by rw [drop_two q1,drop_two q2];rfl
          have hlj:=hl _ (List.getElem_mem q1)
          generalize x.co[j]=l at *
          generalize y.co[j]=m at *
          subst eQ
          simp -implicitDefEqProofs [c340_8,q1,q2,c340_9,c340_9b,AH.lays_lt hb,AH.lays_lt hb',hg,hg',r1,r2]
          refine rows_s g (su.ext .lays).view (su'.ext .lays).view hlj ?_
          simp -implicitDefEqProofs [q1,q2,AH.lays_lt hb,AH.lays_lt hb',hg,hg',r1,r2]
          generalize rowsM l m=e3 at *
          generalize eQ:wO G c340_10 _ _ _=Q
          by_cases h3:e3=0
          · rw [if_neg (by simp [h3])] at st
            subst eQ
            simp -implicitDefEqProofs [c340_10,h3,c340_12,w1]
            exact ⟨x.co.length - (j+1),by omega,j+1,rfl,by omega,by omega,by rw [← st,hr],rfl,by simp⟩
          · rw [if_pos h3] at st
            rw [← hr,st] at k
            subst eQ
            simp -implicitDefEqProofs [c340_10,h3,c340_11,Ext.lays]
            exact k
        · rw [fin (by omega)] at k
          subst eQ
          simp -implicitDefEqProofs [c340_8,q1,q2,c340_14]
          refine before_s g ?_
          simp -implicitDefEqProofs [Ext.lays]
          exact k
      · rw [fin (by omega)] at k
        subst eQ
        simp -implicitDefEqProofs [c340_8,q1,c340_14]
        refine before_s g ?_
        simp -implicitDefEqProofs [Ext.lays]
        exact k
    · rw [if_pos h2] at k
      subst eQ
      simp -implicitDefEqProofs [c340_5,h2,c340_6,Ext.lays]
      exact k
  · rw [if_pos h1] at k
    subst eQ
    simp -implicitDefEqProofs [c340_2,h1,c340_3,Ext.lays]
    exact k
structure DocG (G:Nat→SFunc):Prop extends CmpG G where
  g347:G 347=c347
  g343:G 343=c343
  g353:G 353=c353
  g354:G 354=c354
  g358:G 358=c358
  g357:G 357=c357
  g355:G 355=c355
theorem Reads_d (g:DocG G) {e:Ev6} (k:R (.bool e.reads) h):WC G 347 [e.v] h R:=by
  have key:∀ b,e.reads=b→R (.bool b) h:=fun b e=>e ▸ k
  unfold Ev6.reads at key
  by_cases k1:e.kind=1
  · refine WC_pure (WC_enter g.g347 rfl ?_)
    simp -implicitDefEqProofs [c347,c347_body,c347_0,c347_1,Ev6.v,k1,Ext.lays]
    exact key _ (by simp [k1])
  · by_cases k4:e.kind=4
    · refine WC_pure (WC_enter g.g347 rfl ?_)
      simp -implicitDefEqProofs [c347,c347_body,c347_0,c347_1,Ev6.v,k1,k4,Ext.lays]
      exact key _ (by simp [k1,k4])
    · refine WC_pure (WC_enter g.g347 rfl ?_)
      simp -implicitDefEqProofs [c347,c347_body,c347_0,c347_1,Ev6.v,k1,k4,Ext.lays]
      exact key _ (by simp [k1,k4])
theorem Writes_d (g:DocG G) {e:Ev6} (k:R (.bool e.writes) h):WC G 343 [e.v] h R:=by
  have key:∀ b,e.writes=b→R (.bool b) h:=fun b e=>e ▸ k
  unfold Ev6.writes at key
  by_cases k1:e.kind=2
  · refine WC_pure (WC_enter g.g343 rfl ?_)
    simp -implicitDefEqProofs [c343,c343_body,c343_0,c343_1,Ev6.v,k1,Ext.lays]
    exact key _ (by simp [k1])
  · refine WC_pure (WC_enter g.g343 rfl ?_)
    simp -implicitDefEqProofs [c343,c343_body,c343_0,c343_1,Ev6.v,k1,Ext.lays]
    exact key _ (by simp [k1])
theorem min64 {b:Nat} (h:b < 64):min b IntKind.u64.bits=b:=by
  have:IntKind.u64.bits=64:=rfl
  rw [this];omega
theorem wrap2 {b:Nat} (h:b < 64):IntKind.u64.wrap (2 ^ b)=((2 ^ b:Nat):Int):=by
  have hp:(2:Nat) ^ b < 2 ^ 64:=Nat.pow_lt_pow_right (by omega) (by omega)
  have:(2:Int) ^ b=((2 ^ b:Nat):Int):=by simp
  rw [this]
  have key:∀ x:Nat,x < 2 ^ 64→IntKind.u64.wrap (x:Int)=x:=fun x h=>wrapu (by omega)
  exact key _ hp
theorem Add_d (g:DocG G) {n p a b:Nat} {r:Nat→Nat} (gp:h.get p=.cells (relC n r) false false) (hr:r a < 2 ^ 64) (ha:a < 64) (hb:b < 64) (k:R (.tuple #[]) (h.put p (.cells (relC n (updR r a (r a ||| 2 ^ b))) false false))):WC G 354 [.pointer (some ⟨p,0,none⟩),.int .i64 a,.int .i64 b] h R:=by
  have hp:(2:Nat) ^ b < 2 ^ 64:=Nat.pow_lt_pow_right (by omega) (by omega)
  refine WC_enter g.g354 rfl ?_
  simp -implicitDefEqProofs only [c354,c354_body,W_dreg]
  have e5:splice (relC n r) (1+a) [stW (r a ||| 2 ^ b)]=relC n (updR r a (r a ||| 2 ^ b)):=by rw [splice_one (by simp;omega),relC_set]
  have i1:ior .u64 (r a) (2 ^ b)=((r a ||| 2 ^ b:Nat):Int):=by
    have:=ior_nat hr hp
    rwa [show ((2 ^ b:Nat):Int)=2 ^ b by simp] at this
  simp -implicitDefEqProofs [c354_0,c354_0b,show (a:Int) < 64 by omega,gp,relC_get ha,min64 hb,wrap2 hb]
  refine ⟨by omega,?_⟩
  rw [if_pos (by omega),i1]
  rw [show [Value.int IntKind.u64 ((r a ||| 2 ^ b:Nat):Int)]=[stW (r a ||| 2 ^ b)] from rfl,e5]
  exact k
theorem fdivN {s b:Nat}:(s:Int).fdiv (2 ^ b)=((s / 2 ^ b:Nat):Int):=by
  rw [Int.fdiv_eq_ediv_of_nonneg _ (by have:(0:Int) < 2 ^ b:=Int.pow_pos (by omega);omega)]
  simp
theorem Has_d (g:DocG G) {n p a b:Nat} {r:Nat→Nat} (gp:h.get p=.cells (relC n r) false false) (hr:r a < 2 ^ 64) (ha:a < 64) (hb:b < 64) (k:R (.bool ((r a).testBit b)) h):WC G 358 [.pointer (some ⟨p,0,none⟩),.int .i64 a,.int .i64 b] h R:=by
  refine WC_enter g.g358 rfl ?_
  have lt:r a / 2 ^ b < 2 ^ 64:=Nat.lt_of_le_of_lt (Nat.div_le_self _ _) hr
  have i1:=iand_nat lt (show (1:Nat) < 2 ^ 64 by decide)
  have e4:decide (((r a / 2 ^ b &&& 1:Nat):Int)=1)=(r a).testBit b:=by
    rw [Nat.and_one_is_mod,Nat.testBit_eq_decide_div_mod_eq,Bool.eq_iff_iff,decide_eq_true_iff,decide_eq_true_iff]
    omega
  rw [← e4,← i1,← fdivN] at k
  simp -implicitDefEqProofs [c358,c358_body,c358_0,c358_1,show (a:Int) < 64 by omega,gp,relC_get ha,min64 hb,sbin]
  simpa using k
end Go.Jq
namespace Go.Jq
variable {G:Nat→SFunc} {h:AH} {R:Value→AH→Prop}
def inv357a (h:AH) (n:Nat) (r:Nat→Nat) (mm:Nat) (F:Fr) (hh:AH):Prop :=
  ∃ kk,mm=n - kk∧kk≤n∧hh=h.lays [.cells (relC n ((List.range kk).foldl (cloK n) r)) false false,.cells zrel false false]∧F=[(1,.pointer (some ⟨h.next,0,none⟩)),(2,.pointer (some ⟨h.next+1,0,none⟩)),(3,.int .i64 kk)]
def inv357b (h:AH) (n:Nat) (r:Nat→Nat) (kk:Nat) (mm:Nat) (F:Fr) (hh:AH):Prop :=
  ∃ i,mm=n - i∧i≤n∧hh=h.lays [.cells (relC n ((List.range i).foldl (cloI kk) r)) false false,.cells zrel false false]∧F=[(1,.pointer (some ⟨h.next,0,none⟩)),(2,.pointer (some ⟨h.next+1,0,none⟩)),(3,.int .i64 kk),(4,.int .i64 i)]
theorem Closure_d (g:DocG G) {n:Nat} {r:Nat→Nat} (hn:n≤64) (hr:RowsOk r) (k:R (relV n (clo n r)) h):WC G 357 [relV n r] h R:=by
  refine WC_pure (WC_enter g.g357 rfl ?_)
  simp -implicitDefEqProofs [c357,c357_body,c357_0,c357_1,relV,relC_take]
  refine W_loop (inv357a h n r) n ⟨0,rfl,by omega,rfl,rfl⟩ ?_
  rintro mm F hh ⟨kk,rfl,hk,rfl,rfl⟩
  simp -implicitDefEqProofs [c357_10,c357_2]
  by_cases h1:kk < n
  · have w1:IntKind.i64.wrap ((kk:Int)+1)=((kk+1:Nat):Int):=by rw [wrap64 (by omega)];rfl
    have o1:RowsOk ((List.range kk).foldl (cloK n) r):=foldl_ok (fun _ _ h=>cloK_ok h) hr
    have e1:=@foldl_range _ (cloK n) r kk
    generalize (List.range kk).foldl (cloK n) r=q at *
    simp -implicitDefEqProofs [h1,c357_3]
    refine W_loop (inv357b h n q kk) n ⟨0,rfl,by omega,rfl,rfl⟩ ?_
    rintro mm F hh ⟨i,rfl,hi,rfl,rfl⟩
    simp -implicitDefEqProofs [c357_8,c357_4]
    have o2:RowsOk ((List.range i).foldl (cloI kk) q):=foldl_ok (fun _ _ h=>cloI_ok h) o1
    have e2:=@foldl_range _ (cloI kk) q i
    by_cases h2:i < n
    · have w2:IntKind.i64.wrap ((i:Int)+1)=((i+1:Nat):Int):=by rw [wrap64 (by omega)];rfl
      generalize (List.range i).foldl (cloI kk) q=s at *
      simp -implicitDefEqProofs [h2,c357_5]
      refine Has_d (n:=n) g (by simp) (o2 i) (by omega) (by omega) ?_
      cases e:(s i).testBit kk with
      | false =>
        rw [cloI,if_neg (by rw [e];simp)] at e2
        simp -implicitDefEqProofs [c357_7,w2]
        exact ⟨n - (i+1),by omega,i+1,rfl,by omega,by rw [e2],by simp⟩
      | true =>
        rw [cloI,if_pos e] at e2
        simp -implicitDefEqProofs [c357_6,c357_6b,show (i:Int) < 64 by omega,show (kk:Int) < 64 by omega,relC_get (show i < 64 by omega),relC_get (show kk < 64 by omega),ior_nat (o2 i) (o2 kk),c357_7,w2]
        refine ⟨by omega,n - (i+1),by omega,i+1,rfl,by omega,?_,by simp⟩
        rw [if_pos (by omega),show [Value.int IntKind.u64 ((s i ||| s kk:Nat):Int)]=[stW (s i ||| s kk)] from rfl,relC_splice1 (by omega),e2]
    · have e:i=n:=by omega
      subst e
      simp -implicitDefEqProofs [c357_9,w1]
      exact ⟨i - (kk+1),by omega,kk+1,rfl,by omega,by rw [e1,cloK],by simp⟩
  · have e:kk=n:=by omega
    subst e
    simp -implicitDefEqProofs [c357_11,relC_take,zrel_splice,zrel_length,Ext.lays]
    exact ⟨(Clean_ints relC_int).fa,k⟩
def inv355 (h:AH) (n:Nat) (q r:Nat→Nat) (mm:Nat) (F:Fr) (hh:AH):Prop :=
  ∃ i,mm=n - i∧i≤n∧(∀ j,j < i→(q j).testBit j=false)∧hh=h.lays [.cells (relC n r) false false,.cells (relC n q) false false]∧F=[(1,.pointer (some ⟨h.next,0,none⟩)),(3,.pointer (some ⟨h.next+1,0,none⟩)),(4,.int .i64 i)]
theorem Acyclic_d (g:DocG G) {n:Nat} {r:Nat→Nat} (hn:n≤64) (hr:RowsOk r) (k:R (.bool (acyM n r)) h):WC G 355 [relV n r] h R:=by
  refine WC_pure (WC_enter g.g355 rfl ?_)
  simp -implicitDefEqProofs [c355,c355_body,c355_0,c355_1,relV,relC_take]
  refine Closure_d g hn hr ?_
  unfold acyM at k
  have oq:=clo_ok (n:=n) hr
  generalize clo n r=q at *
  simp -implicitDefEqProofs [c355_2,relV,relC_take,zrel_splice,zrel_length]
  refine W_loop (inv355 h n q r) n ⟨0,rfl,by omega,fun _ h=>by omega,rfl,rfl⟩ ?_
  rintro mm F hh ⟨i,rfl,hi,hno,rfl,rfl⟩
  simp -implicitDefEqProofs [c355_7,c355_3]
  by_cases h1:i < n
  · have w1:IntKind.i64.wrap ((i:Int)+1)=((i+1:Nat):Int):=by rw [wrap64 (by omega)];rfl
    simp -implicitDefEqProofs [h1,c355_4]
    refine Has_d (n:=n) g (by simp) (oq i) (by omega) (by omega) ?_
    cases e:(q i).testBit i with
    | false =>
      simp -implicitDefEqProofs [c355_6,w1]
      refine ⟨n - (i+1),by omega,i+1,rfl,by omega,fun j hj=>?_,rfl,by simp⟩
      by_cases ej:j=i
      · subst ej;exact e
      · exact hno j (by omega)
    | true =>
      have ea:((List.range n).all fun i=>!(q i).testBit i)=false:=by
        rw [List.all_eq_false]
        exact ⟨i,List.mem_range.2 h1,by simp [e]⟩
      rw [ea] at k
      simp -implicitDefEqProofs [c355_5,Ext.lays]
      exact k
  · have ea:((List.range n).all fun i=>!(q i).testBit i)=true:=by
      rw [List.all_eq_true]
      intro j hj
      rw [List.mem_range] at hj
      simp [hno j (by omega)]
    rw [ea] at k
    simp -implicitDefEqProofs [h1,c355_8,Ext.lays]
    exact k
theorem addUp {n a b:Nat} {r:Nat→Nat} (hn:n≤64) (ha:a < n) (hb:b < n):updR r a (r a ||| 2 ^ b)=addR n r a b:=by
  unfold addR
  rw [if_pos (by simp [inB];omega)]
  unfold withN bitN
  rw [if_pos (by omega)]
  simp
def inv353 (h:AH) (l:List Ev6) (v:Value) (mm:Nat) (F:Fr) (hh:AH):Prop :=
  ∃ i:Nat,mm=l.length - i∧i≤l.length∧F=[(0,v),(2,.pointer (some ⟨h.next,0,none⟩)),(3,.pointer (some ⟨h.next+1,0,none⟩)),(4,.int .i64 i)] ∧
    hh=h.lays [.cells zrel false false,.cells (relC l.length (relOf l.length fun a b=>poP l a b && cutB i 0 a b)) false false]
def inv353b (h:AH) (l:List Ev6) (v:Value) (i:Nat) (mm:Nat) (F:Fr) (hh:AH):Prop :=
  ∃ k:Nat,mm=l.length - k∧k≤l.length∧F=[(0,v),(2,.pointer (some ⟨h.next,0,none⟩)),(3,.pointer (some ⟨h.next+1,0,none⟩)),(4,.int .i64 i),(5,.int .i64 k)] ∧
    hh=h.lays [.cells zrel false false,.cells (relC l.length (relOf l.length fun a b=>poP l a b && cutB i k a b)) false false]
theorem zrel_set0 {n:Nat}:zrel.set 0 (.int .i64 (n:Int))=relC n fun _=>0:=rfl
set_option maxHeartbeats 2000000 in
set_option maxRecDepth 8000 in
theorem PO_d (g:DocG G) {l:List Ev6} {v:Value} (s:SlV 6 h l.length (l.flatMap Ev6.c) v) (k:R (relV (poN l) (relOf (poN l) (poP l))) h):WC G 353 [v] h R:=by
  obtain ⟨a,c,rfl⟩:=s.len
  refine WC_pure (WC_enter g.g353 rfl ?_)
  unfold poN at k
  have zb:zrel.toArray.toList=zrel:=by simp
  simp -implicitDefEqProofs [c353,c353_body,c353_0,c353_1,zrel_splice,zrel_length,splice_all,c353_2]
  by_cases h1:64 < l.length
  · rw [if_pos h1] at k
    have tz:zrel.take 65=zrel:=List.take_of_length_le (by simp [zrel_length])
    have sz:splice zrel 0 zrel=zrel:=splice_all rfl
    simp -implicitDefEqProofs [h1,show (64:Int) < l.length by omega,c353_3,tz,sz,zrel_length,Ext.lays]
    have e0:relV 0 (relOf 0 (poP l))=.agg zrel.toArray:=by rw [zrel_eq];unfold relV;congr 2
    rw [e0] at k
    exact ⟨by rw [zrel_eq];exact (Clean_ints relC_int).fa,k⟩
  · rw [if_neg h1] at k
    have hn:l.length≤64:=by omega
    simp -implicitDefEqProofs [h1,show ¬ (64:Int) < l.length by omega,c353_4,c353_5,zrel_set0,zrel_length]
    refine W_loop (inv353 h l (.slice a l.length c)) l.length ⟨0,rfl,by omega,rfl,by rw [cut_none (n:=l.length) (P:=poP l)]⟩ ?_
    rintro mm F hh ⟨i,rfl,hi,rfl,rfl⟩
    simp -implicitDefEqProofs [c353_14,c353_6]
    by_cases hi':i < l.length
    · have w1:IntKind.i64.wrap ((i:Int)+1)=((i+1:Nat):Int):=by rw [wrap64 (by omega)];rfl
      obtain ⟨b,o,sp,c0,gg,ro,rfl,hb,hg,rds⟩:=s.rds Ev6.c_length (by omega)
      have hg:∀ L,(h.lays L).get b=.cells c0 gg ro:=fun L=>(AH.lays_lt hb).trans hg
      have A0:=(rds i hi').2.2 0 (by omega)
      have A1:=(rds i hi').2.2 1 (by omega)
      rw [← evA_of hi'] at A0 A1
      simp only [Ev6.c,Nat.add_zero,List.getElem?_cons_zero,List.getElem?_cons_succ] at A0 A1
      simp -implicitDefEqProofs [hi',c353_7]
      refine W_loop (inv353b h l (.slice (some ⟨b,o,sp⟩) l.length c) i) l.length ⟨0,rfl,by omega,rfl,rfl⟩ ?_
      rintro mm F hh ⟨k,rfl,hk,rfl,rfl⟩
      simp -implicitDefEqProofs [c353_12,c353_8]
      by_cases hk':k < l.length
      · have w2:IntKind.i64.wrap ((k:Int)+1)=((k+1:Nat):Int):=by rw [wrap64 (by omega)];rfl
        have B0:=(rds k hk').2.2 0 (by omega)
        have B1:=(rds k hk').2.2 1 (by omega)
        rw [← evA_of hk'] at B0 B1
        simp only [Ev6.c,Nat.add_zero,List.getElem?_cons_zero,List.getElem?_cons_succ] at B0 B1
        simp -implicitDefEqProofs [hk']
        generalize eQ:wQ c353_9 _ _ _=Q
        by_cases a1:(evA l i).t < 0
        · have a1':¬ 0≤(evA l i).t:=by omega
          by_cases a2:0≤(evA l k).t
          · skip
            subst eQ
            have cT:=cut_true (P:=poP l) (i:=i) (k:=k) hn (by simp [poP,poE,a1,a1',a2])
            simp -implicitDefEqProofs [c353_9,a1,a1',a2,hi',hk',hg,A0,A1,B0,B1,c353_10]
            refine Add_d (n:=l.length) (p:=h.next+1) (a:=i) (b:=k) (r:=relOf l.length fun a b=>poP l a b && cutB i k a b) g (by simp) (relOf_ok hn i) (by omega) (by omega) ?_
            rw [addUp hn hi' hk',cT]
            simp -implicitDefEqProofs [c353_11,w2]
            exact ⟨l.length - (k+1),by omega,k+1,rfl,by omega,by simp,rfl⟩
          · skip
            subst eQ
            have cF:=cut_false (n:=l.length) (P:=poP l) (i:=i) (k:=k) (by simp [poP,poE,a1,a1',a2])
            simp -implicitDefEqProofs [c353_9,a1,a1',a2,hi',hk',hg,A0,A1,B0,B1,c353_11,w2]
            exact ⟨l.length - (k+1),by omega,k+1,rfl,by omega,by simp,by rw [← cF]⟩
        · have a1':0≤(evA l i).t:=by omega
          by_cases a3:(evA l i).t=(evA l k).t
          · by_cases a4:(evA l i).i < (evA l k).i
            · skip
              subst eQ
              have cT:=cut_true (P:=poP l) (i:=i) (k:=k) hn (by simp [poP,poE,a1,a1',eq_true a3,a4])
              simp -implicitDefEqProofs [c353_9,a1,a1',eq_true a3,a4,hi',hk',hg,A0,A1,B0,B1,c353_10]
              refine Add_d (n:=l.length) (p:=h.next+1) (a:=i) (b:=k) (r:=relOf l.length fun a b=>poP l a b && cutB i k a b) g (by simp) (relOf_ok hn i) (by omega) (by omega) ?_
              rw [addUp hn hi' hk',cT]
              simp -implicitDefEqProofs [c353_11,w2]
              exact ⟨l.length - (k+1),by omega,k+1,rfl,by omega,by simp,rfl⟩
            · skip
              subst eQ
              have cF:=cut_false (n:=l.length) (P:=poP l) (i:=i) (k:=k) (by simp [poP,poE,a1,a1',eq_true a3,a4])
              simp -implicitDefEqProofs [c353_9,a1,a1',eq_true a3,a4,hi',hk',hg,A0,A1,B0,B1,c353_11,w2]
              exact ⟨l.length - (k+1),by omega,k+1,rfl,by omega,by simp,by rw [← cF]⟩
          · skip
            subst eQ
            have cF:=cut_false (n:=l.length) (P:=poP l) (i:=i) (k:=k) (by simp [poP,poE,a1,a1',a3])
            simp -implicitDefEqProofs [c353_9,a1,a1',a3,hi',hk',hg,A0,A1,B0,B1,c353_11,w2]
            exact ⟨l.length - (k+1),by omega,k+1,rfl,by omega,by simp,by rw [← cF]⟩
      · have e:k=l.length:=by omega
        subst e
        simp -implicitDefEqProofs [c353_13,w1]
        exact ⟨l.length - (i+1),by omega,i+1,rfl,by omega,by simp,by rw [← cut_next]⟩
    · have e:i=l.length:=by omega
      subst e
      simp -implicitDefEqProofs [c353_15,relC_take,zrel_splice,zrel_length,Ext.lays]
      rw [cut_end]
      exact ⟨by simpa [relV] using Clean_rel (m:=h.next),k⟩
end Go.Jq
namespace Go.Jq
variable {G:Nat→SFunc} {h h0 h1:AH} {R:Value→AH→Prop}
structure Xt (h h1:AH):Prop where
  next:h.next≤h1.next
  get:∀ b c g ro,b < h.next→h.get b=.cells c g ro→h1.get b=.cells c g ro
theorem Xt.refl (h:AH):Xt h h:=⟨Nat.le_refl _,fun _ _ _ _ _ e=>e⟩
theorem Xt.trans {a b c:AH} (x:Xt a b) (y:Xt b c):Xt a c:=⟨Nat.le_trans x.next y.next,fun i cs g ro hi e=>y.get i cs g ro (Nat.lt_of_lt_of_le hi x.next) (x.get i cs g ro hi e)⟩
theorem Ext.xt (x:Ext h h1):Xt h h1:=⟨x.next,fun b c g ro hb e=>by rw [x.get b hb];exact e⟩
section
variable {k n:Nat} {cs:List Value} {v:Value}
theorem SlV.xt (s:SlV k h n cs v) (x:Xt h h1):SlV k h1 n cs v:=by
  obtain ⟨s1,s2⟩:=s
  refine ⟨s1,?_⟩
  rcases s2 with s2 | ⟨b,o,sp,c,c0,g,ro,e1,e2,e3,e4,e5⟩
  · exact .inl s2
  · exact .inr ⟨b,o,sp,c,c0,g,ro,e1,Nat.lt_of_lt_of_le e2 x.next,x.get _ _ _ _ e2 e3,e4,e5⟩
theorem SlX.xt (s:SlX k h n cs v) (x:Xt h h1):SlX k h1 n cs v:=by
  obtain ⟨s1,s2⟩:=s
  refine ⟨s1,?_⟩
  rcases s2 with s2 | ⟨b,o,sp,c,c0,g,ro,e1,e6,e7,e2,e3,e4,e5⟩
  · exact .inl s2
  · exact .inr ⟨b,o,sp,c,c0,g,ro,e1,e6,e7,Nat.lt_of_lt_of_le e2 x.next,x.get _ _ _ _ e2 e3,e4,e5⟩
theorem NestX.xt {α:Type} {f:α→List Value} {ths:List (List α)} (n:NestX f k h ths v) (x:Xt h h1):NestX f k h1 ths v:=by
  obtain ⟨tvs,h1,h2⟩:=n
  exact ⟨tvs,h1.xt x,h2.imp fun _ _ _ _ s=>s.xt x⟩
theorem ExeV.xt {x:Exe} {ev rv cv:Value} (e:ExeV h x ev rv cv) (y:Xt h h1):ExeV h1 x ev rv cv:=⟨e.evs.xt y,e.rf.xt y,e.co.xt y⟩
end
def Sd (h:AH) (ob:Nat) (v:Value):AH:=⟨h.next,fun b=>if b=ob ∨ blkOf v=some b then .dead else h.get b⟩
section
variable {ob:Nat} {v v1:Value}
theorem Sd.xt:Xt (Sd h ob v) h:=⟨Nat.le_refl _,fun b c g ro _ e=>by
  simp only [Sd] at e
  split at e
  · simp at e
  · exact e⟩
theorem Sd.get {b:Nat} (h1:b ≠ ob) (h2:blkOf v ≠ some b):(Sd h ob v).get b=h.get b:=if_neg (by simp [h1,h2])
theorem Sd.up {b:Nat} {c:List Value} {g ro:Bool} (e:(Sd h ob v).get b=.cells c g ro):b ≠ ob∧blkOf v ≠ some b∧h.get b=.cells c g ro:=by
  simp only [Sd] at e
  split at e
  · simp at e
  · rename_i q;exact ⟨fun x=>q (.inl x),fun x=>q (.inr x),e⟩
theorem Sd.ext (x:Ext h h1):Xt (Sd h ob v) (Sd h1 ob v):=⟨x.next,fun b c g ro hb e=>by
  obtain ⟨q1,q2,q3⟩:=Sd.up e
  rw [Sd.get q1 q2,x.get b hb];exact q3⟩
theorem Sd.chg (hn:h.next≤h1.next) (hg:∀ b,b < h.next→b ≠ ob→blkOf v ≠ some b→h1.get b=h.get b) (hv:∀ b,blkOf v1=some b→blkOf v=some b ∨ h.next≤b):Xt (Sd h ob v) (Sd h1 ob v1):=⟨hn,fun b c g ro hb e=>by
  obtain ⟨q1,q2,q3⟩:=Sd.up e
  have hb:b < h.next:=hb
  rw [Sd.get q1 (fun e=>by rcases hv b e with q | q;exact q2 q;omega),hg b hb q1 q2];exact q3⟩
theorem SlX.sd {k n:Nat} {cs:List Value} {u:Value} (s:SlX k h n cs u) (hu:∀ b,blkOf u=some b→b ≠ ob∧blkOf v ≠ some b):SlX k (Sd h ob v) n cs u:=by
  obtain ⟨s1,s2⟩:=s
  refine ⟨s1,?_⟩
  rcases s2 with s2 | ⟨b,o,sp,c,c0,g,ro,rfl,e6,e7,e2,e3,e4,e5⟩
  · exact .inl s2
  · have:=hu b rfl
    exact .inr ⟨b,o,sp,c,c0,g,ro,rfl,e6,e7,e2,by rw [Sd.get this.1 this.2];exact e3,e4,e5⟩
end
def c3 (w:Value×Value×Value):List Value:=[w.1,w.2.1,w.2.2]
theorem c3_length (w:Value×Value×Value):(c3 w).length=3:=rfl
structure Sm (x:Exe):Prop where
  evs:x.evs.length≤60
  rf:x.rf.length≤60
  co:x.co.length≤64
  rows:∀ l ∈ x.co,l.length≤64
def ExW (h:AH) (x:Exe) (w:Value×Value×Value):Prop:=ExeV h x w.1 w.2.1 w.2.2
structure OutSt (h:AH) (ob:Nat) (L:List Exe) (v:Value):Prop where
  at':h.get ob=.cells [v] false false
  hob:ob < h.next
  ne:blkOf v ≠ some ob
  sm:∀ x ∈ L,Sm x
  ws:∃ ws,SlG 3 h 0 L.length (ws.flatMap c3) v∧All2 (ExW (Sd h ob v)) L ws
theorem SlG.blk {k lo n:Nat} {cs:List Value} {v:Value} (s:SlG k h lo n cs v) {b:Nat} (hb:blkOf v=some b):lo≤b∧b < h.next:=by
  rcases s.2 with ⟨_,rfl⟩ | ⟨b',h1,h2,h3,rfl⟩
  · simp [blkOf] at hb
  · simp [blkOf] at hb;omega
theorem OutSt.ext {ob:Nat} {L:List Exe} {v:Value} (O:OutSt h ob L v) (x:Ext h h1):OutSt h1 ob L v:=by
  obtain ⟨ws,s,a⟩:=O.ws
  exact ⟨by rw [x.get _ O.hob];exact O.at',Nat.lt_of_lt_of_le O.hob x.next,O.ne,O.sm,ws,s.ext x,a.imp fun _ _ _ _ e=>ExeV.xt e (Sd.ext x)⟩
def OutK (h:AH) (ob:Nat) (v:Value) (R:Value→AH→Prop) (r:Bool×List Exe):Prop:=∀ h1 v1,h.next≤h1.next→Xt (Sd h ob v) (Sd h1 ob v1)→OutSt h1 ob r.2 v1→R (.bool r.1) h1
theorem SlG.app {k bytes m m' t o:Nat} {sp:Option Nat} {hh:AH} {lo n:Nat} {cs ec:List Value} {v:Value} {K:Value→AH→Prop} (s:SlG k hh lo n cs v) (he:hh.load t o (m * k)=some ec) (hm:0 < m) (hb:(n+m) * bytes≤70368744177664) (hlo:lo≤hh.next)
    (hK:∀ h',SlG k h' lo (n+m) (cs++ec) (.slice (some ⟨hh.next,0,some k⟩) (n+m) (n+m))→h'.next=hh.next+1→(∀ y,y < hh.next→blkOf v ≠ some y→h'.get y=hh.get y)→K (.slice (some ⟨hh.next,0,some k⟩) (n+m) (n+m)) h') :
    getvh (sappend hh k bytes v (.slice (some ⟨t,o,sp⟩) m m')) K:=by
  obtain ⟨h',e1,e2,e3,e5,e4⟩:=s.append (m:=m) (m':=m') (bytes:=bytes) (sp:=sp) he hm hb hlo
  rw [e1,getvh_some]
  exact hK _ e2 e3 fun y hy hv=>e5 y hy fun n' e=>hv (by rw [e];rfl)
def exA (L:List Exe) (i:Nat):Exe:=(L[i]?).getD ⟨[],[],[]⟩
theorem exA_of {L:List Exe} {i:Nat} (h:i < L.length):exA L i=L[i]:=by simp [exA,h]
def bsM (L:List Exe) (x:Exe):Nat→Nat→Nat→Nat
  | 0,lo,_=>lo
  | f+1,lo,hi=>if lo < hi then (if cmpM (exA L ((lo+hi) / 2)) x < 0 then bsM L x f ((lo+hi) / 2+1) hi else bsM L x f lo ((lo+hi) / 2)) else lo
def posM (L:List Exe) (x:Exe):Nat:=bsM L x L.length 0 L.length
def insM (L:List Exe) (x:Exe):List Exe:=if posM L x < L.length∧cmpM (exA L (posM L x)) x=0 then L else L.take (posM L x)++x::L.drop (posM L x)
theorem bsM_more {L:List Exe} {x:Exe} {f g lo hi:Nat} (h:hi - lo≤f) (h':hi - lo≤g):bsM L x f lo hi=bsM L x g lo hi:=by
  induction f generalizing g lo hi with
  | zero =>
    cases g with
    | zero=>rfl
    | succ g=>simp [bsM];omega
  | succ f ih =>
    cases g with
    | zero=>simp [bsM];omega
    | succ g =>
      unfold bsM
      split
      · split
        · exact ih (by omega) (by omega)
        · exact ih (by omega) (by omega)
      · rfl
theorem insM_mem {L:List Exe} {x y:Exe} (h:y ∈ insM L x):y ∈ L ∨ y=x:=by
  unfold insM at h;split at h
  · exact .inl h
  · simp at h
    rcases h with h | h | h
    · exact .inl (List.mem_of_mem_take h)
    · exact .inr h
    · exact .inl (List.mem_of_mem_drop h)
def z3:Value×Value×Value:=(.slice none 0 0,.slice none 0 0,.slice none 0 0)
theorem ins_cells {ws:List (Value×Value×Value)} {w z:Value×Value×Value} {i:Nat} (hi:i≤ws.length) :
    splice (splice ((ws++[z]).flatMap c3) ((i+1) * 3) ((((ws++[z]).flatMap c3).drop (i * 3)).take ((ws.length - i) * 3))) (i * 3) (c3 w)=(ws.take i++w::ws.drop i).flatMap c3:=by
  have e1:((ws++[z]).drop i).take (ws.length - i)=ws.drop i:=by
    rw [List.drop_append_of_le_length hi,List.take_append_of_le_length (by simp),List.take_of_length_le (by simp)]
  have e2:(ws++[z]).drop (i+1+(ws.drop i).length)=[]:=List.drop_of_length_le (by simp;omega)
  have e3:c3 w=[w].flatMap c3:=by simp
  rw [fm_take_drop c3_length,fm_splice c3_length,e1,e2,List.append_nil,e3,fm_splice c3_length]
  congr 1
  have l1:((ws++[z]).take (i+1)).length=i+1:=by simp;omega
  rw [List.take_append_of_le_length (by omega),List.take_take,Nat.min_eq_left (by omega),List.take_append_of_le_length hi,List.drop_append,List.drop_of_length_le (by simp;omega)]
  simp [show i+1 - min (i+1) (ws.length+1)=0 by omega]
  omega
theorem put_same {h:AH} {b:Nat} {o:ABlk} (e:h.get b=o):h.put b o=h:=AH.ext2 rfl fun i=>by
  simp only [AH.put];split
  · rename_i q;rw [q,e]
  · rfl
structure PutG (G:Nat→SFunc):Prop extends DocG G where
  g359:G 359=c359
def inv359 (h:AH) (L:List Exe) (x:Exe) (v:Value) (xc:List Value) (mm:Nat) (F:Fr) (hh:AH):Prop :=
  ∃ lo hi:Nat,mm=hi - lo∧lo≤hi∧hi≤L.length∧bsM L x (hi - lo) lo hi=posM L x∧hh=h.lays [.cells xc false false]∧F=[(0,v),(3,.pointer (some ⟨h.next,0,none⟩)),(5,.int .i64 lo),(6,.int .i64 hi)]
structure PutR (h:AH) (ob:Nat) (v:Value) (x:Exe) (L L1:List Exe) (h1:AH) (v1:Value):Prop where
  next:h.next≤h1.next
  get:∀ b,b < h.next→blkOf v ≠ some b→h1.get b=h.get b
  blk:∀ b,blkOf v1=some b→blkOf v=some b ∨ h.next≤b
  ws:∃ ws,SlG 3 h1 0 L1.length (ws.flatMap c3) v1∧All2 (ExW (Sd h ob v)) L1 ws
set_option maxHeartbeats 1000000 in
theorem Put_d (g:PutG G) {ob:Nat} {L:List Exe} {v ev rv cv:Value} {x:Exe} (O:OutSt h ob L v) (X:ExeV (Sd h ob v) x ev rv cv) (sx:Sm x) (hL:L.length≤100000)
    (k:∀ h1 v1,PutR h ob v x L (insM L x) h1 v1→R v1 h1):WC G 359 [v,.agg #[ev,rv,cv]] h R:=by
  obtain ⟨ws,sl,al⟩:=O.ws
  have wl:=al.len
  have ex:∀ i,i < L.length→∀ B,∃ w,ws[i]?=some w∧ExeV (h.lays B) (exA L i) w.1 w.2.1 w.2.2∧Sm (exA L i):=fun i hi B=>by
    obtain ⟨hm,e⟩:=al.at hi
    exact ⟨ws[i],by simp [hm],by rw [exA_of hi];exact (ExeV.xt e Sd.xt).ext .lays,by rw [exA_of hi];exact O.sm _ (List.getElem_mem hi)⟩
  have XL:∀ B,ExeV (h.lays B) x ev rv cv:=fun B=>(X.xt Sd.xt).ext .lays
  obtain ⟨va,vc,rfl⟩:=sl.len
  refine WC_enter g.g359 rfl ?_
  simp -implicitDefEqProofs [c359,c359_body,c359_0,c359_1]
  refine W_loop (inv359 h L x (.slice va L.length vc) [ev,rv,cv]) L.length ⟨0,L.length,by omega,by omega,by omega,by rw [posM];rfl,rfl,rfl⟩ ?_
  rintro mm F hh ⟨lo,hi,rfl,hlo,hhi,hbs,rfl,rfl⟩
  simp -implicitDefEqProofs [c359_7,c359_2]
  by_cases h1:lo < hi
  · have hm:(lo+hi) / 2 < L.length:=by omega
    obtain ⟨w,ew,W,sw⟩:=ex _ hm [.cells [ev,rv,cv] false false]
    have q1:IntKind.i64.wrap ((lo:Int)+hi)=((lo+hi:Nat):Int):=by rw [wrap64 (by omega)];rfl
    have q2:IntKind.i64.wrap (((lo+hi:Nat):Int).tdiv 2)=(((lo+hi) / 2:Nat):Int):=by
      rw [show ((lo+hi:Nat):Int).tdiv 2=(((lo+hi) / 2:Nat):Int) from rfl,wrap64 (by omega)]
    have q3:IntKind.i64.wrap ((((lo+hi) / 2:Nat):Int)+1)=(((lo+hi) / 2+1:Nat):Int):=by rw [wrap64 (by omega)];rfl
    have hf:hi - lo=(hi - lo - 1)+1:=by omega
    rw [hf] at hbs
    unfold bsM at hbs
    rw [if_pos h1] at hbs
    generalize em:(lo+hi) / 2=m at *
    rw [show ((lo+hi:Nat):Int)=(lo:Int)+hi from by omega] at q2
    rcases sl.2 with ⟨h0,_⟩ | ⟨b,b1,b2,b3,e⟩
    · omega
    · simp only [Value.slice.injEq,true_and] at e
      obtain ⟨rfl,rfl⟩:=e
      have hmw:m < ws.length:=by omega
      have ew':ws[m]=w:=by rw [List.getElem?_eq_getElem hmw] at ew;exact Option.some.inj ew
      have row:((ws.flatMap c3).drop (m * 3)).take 3=[w.1,w.2.1,w.2.2]:=by rw [fm_row c3_length hmw,ew'];rfl
      have rle:=fm_le c3_length hmw
      generalize hcs:ws.flatMap c3=cs at *
      simp -implicitDefEqProofs [h1,c359_3,q1,q2]
      simp -implicitDefEqProofs [c359_4,c359_4b,hm,AH.lays_lt b2,b3,row,rle]
      refine Cmp_s g.toCmpG W (XL _) (by have:=sw.evs;omega) (by have:=sw.rf;omega) (by have:=sw.co;omega) (fun l hl=>by have:=sw.rows l hl;omega) ?_
      simp -implicitDefEqProofs [hm,AH.lays_lt b2,b3,row,rle]
      by_cases h2:cmpM (exA L m) x < 0
      · rw [if_pos h2] at hbs
        simp -implicitDefEqProofs [h2,c359_5,q3]
        exact ⟨hi - (m+1),by omega,m+1,hi,rfl,by omega,hhi,by rw [← hbs];exact bsM_more (by omega) (by omega),rfl,by simp⟩
      · rw [if_neg h2] at hbs
        simp -implicitDefEqProofs [h2,c359_6]
        exact ⟨m - lo,by omega,lo,m,rfl,by omega,by omega,by rw [← hbs];exact bsM_more (by omega) (by omega),rfl,by simp⟩
  · have e:hi=lo:=by omega
    subst e
    have ep:posM L x=hi:=by rw [← hbs,Nat.sub_self];rfl
    clear hbs
    have hap:∀ (B:List ABlk),Ext h (h.lays B):=fun B=>.lays
    unfold insM at k
    rw [ep] at k
    simp -implicitDefEqProofs
    -- put in
    have tail:¬ (hi < L.length∧cmpM (exA L hi) x=0)→W G (.seq (.reg [0,3,5] c359_10) (.seq (.dreg [0,3,5] c359_11 c359_11b) (.seq (.reg [0] c359_12) (.seq (.reg [4] c359_13) .ret)))) [(0,.slice va L.length vc),(3,.pointer (some ⟨h.next,0,none⟩)),(5,.int .i64 hi)] (h.lays [.cells [ev,rv,cv] false false]) (retK [.tmp 4] R):=by
      intro hno
      rw [if_neg hno] at k
      simp -implicitDefEqProofs [c359_10]
      have nil3:([Value.slice none 0 0,Value.slice none 0 0,Value.slice none 0 0]:List Value)=c3 z3:=rfl
      refine (sl.ext .lays).app (m:=1) (ec:=c3 z3) (by rw [load_of (c:=c3 z3) (g:=false) (ro:=false) (by simp [c3,z3]) (by simp [c3])];simp [c3]) (by omega) (by omega) (by simp) fun h' s' n' g'=>?_
      rw [show (ws.flatMap c3)++c3 z3=(ws++[z3]).flatMap c3 by simp] at s'
      have hn2:h'.next=h.next+3:=by simpa using n'
      have nb:h'.get (h.next+2)=.cells ((ws++[z3]).flatMap c3) true false:=by
        rcases s'.2 with ⟨q,_⟩ | ⟨b,b1,b2,b3,e⟩
        · omega
        · simp at e;obtain ⟨rfl,_⟩:=e;exact b3
      have gx:h'.get h.next=.cells [ev,rv,cv] false false:=by
        rw [g' h.next (by simp) (fun e=>by have:=(sl.blk e).2;omega)];simp
      have cl:((ws++[z3]).flatMap c3).length=(L.length+1) * 3:=by rw [fm_length c3_length];simp [wl]
      have hins:=ins_cells (ws:=ws) (w:=(ev,rv,cv)) (z:=z3) (i:=hi) (by omega)
      rw [← wl] at hins
      generalize (ws++[z3]).flatMap c3=cc at *
      have q3:IntKind.i64.wrap ((hi:Int)+1)=((hi+1:Nat):Int):=by rw [wrap64 (by omega)];rfl
      have sc:scopy h' 3 (.slice (some ⟨h.next+2,(hi+1) * 3,some 3⟩) (L.length - hi) (L.length - hi)) (.slice (some ⟨h.next+2,hi * 3,some 3⟩) (L.length+1 - hi) (L.length+1 - hi)) =
          some (.int .i64 (L.length - hi:Nat),h'.put (h.next+2) (.cells (splice cc ((hi+1) * 3) ((cc.drop (hi * 3)).take ((L.length - hi) * 3))) true false)):=by
        have em:min (L.length+1 - hi) (L.length - hi)=L.length - hi:=by omega
        unfold scopy
        simp only [lenOf,firstOf,em]
        rw [load_of nb (by rw [cl];omega)]
        by_cases hz:L.length - hi=0
        · simp only [hz,Nat.zero_mul,List.take_zero,splice_nil,put_same nb,if_true];rfl
        · simp only [if_neg hz]
          rw [store_of nb (by rw [List.length_take,List.length_drop,cl];omega)]
      have s1:sslice 3 (some ⟨h.next+2,0,some 3⟩) (L.length+1) (L.length+1) (some (.int .i64 ((hi+1:Nat):Int))) none none=some (.slice (some ⟨h.next+2,(hi+1) * 3,some 3⟩) (L.length - hi) (L.length - hi)):=by
        unfold sslice
        rw [sbounds_l,if_pos (by omega)]
        simp [addrAdd]
      rw [show ((hi+1:Nat):Int)=(hi:Int)+1 from rfl] at s1
      have s2:sslice 3 (some ⟨h.next+2,0,some 3⟩) (L.length+1) (L.length+1) (some (.int .i64 (hi:Int))) none none=some (.slice (some ⟨h.next+2,hi * 3,some 3⟩) (L.length+1 - hi) (L.length+1 - hi)):=by
        unfold sslice
        rw [sbounds_l,if_pos (by omega)]
        simp [addrAdd]
      simp -implicitDefEqProofs [c359_11,c359_11b,q3,s1,s2,sc]
      have l2:(splice cc ((hi+1) * 3) ((cc.drop (hi * 3)).take ((L.length - hi) * 3))).length=(L.length+1) * 3:=by
        rw [splice_len (by rw [List.length_take,List.length_drop,cl];omega),cl]
      generalize splice cc ((hi+1) * 3) ((cc.drop (hi * 3)).take ((L.length - hi) * 3))=c2 at *
      have cw:c3 (ev,rv,cv)=[ev,rv,cv]:=rfl
      rw [cw] at hins
      simp -implicitDefEqProofs [c359_12,gx,show (hi:Int) < (L.length:Int)+1 by omega,show hi * 3+3≤c2.length by omega,hins]
      simp -implicitDefEqProofs [c359_13]
      have bl:∀ b,blkOf (Value.slice va L.length vc)=some b→b < h.next:=fun b hb=>(sl.blk hb).2
      refine k _ _ ⟨by simp;omega,fun b hb hne=>?_,fun b hb=>?_,ws.take hi++(ev,rv,cv)::ws.drop hi,⟨by rw [fm_length c3_length];simp [wl],.inr ⟨h.next+2,by omega,by simp;omega,by simp,by simp;omega⟩⟩,?_⟩
      · rw [AH.put_get,if_neg (by omega),AH.put_get,if_neg (by omega),g' b (by simp;omega) hne,AH.lays_lt hb]
      · simp [blkOf] at hb;omega
      · have a1:∀ {l:List Exe} {m:List (Value×Value×Value)} (j:Nat),All2 (ExW (Sd h ob (Value.slice va L.length vc))) l m→All2 (ExW (Sd h ob (Value.slice va L.length vc))) (l.take j) (m.take j)∧All2 (ExW (Sd h ob (Value.slice va L.length vc))) (l.drop j) (m.drop j):=by
          intro l m j a
          induction a generalizing j with
          | nil=>constructor <;> simp <;> exact .nil
          | cons p q ih => cases j with
            | zero=>exact ⟨by simpa using All2.nil,.cons p q⟩
            | succ j=>simp;exact ⟨.cons p (ih j).1,(ih j).2⟩
        have a2:∀ {l l':List Exe} {m m':List (Value×Value×Value)},All2 (ExW (Sd h ob (Value.slice va L.length vc))) l m→All2 (ExW (Sd h ob (Value.slice va L.length vc))) l' m'→All2 (ExW (Sd h ob (Value.slice va L.length vc))) (l++l') (m++m'):=by
          intro l l' m m' a b
          induction a with
          | nil=>exact b
          | cons p q ih=>exact .cons p ih
        exact a2 (a1 hi al).1 (.cons X (a1 hi al).2)
    simp -implicitDefEqProofs only [W_seq,W_reg,W_dreg] at tail
    generalize eQ:wD G c359_8b c359_8 _ _ _ _ _ _=Q
    by_cases h2:hi < L.length
    · obtain ⟨w,ew,W,sw⟩:=ex _ h2 [.cells [ev,rv,cv] false false]
      rcases sl.2 with ⟨h0,_⟩ | ⟨b,b1,b2,b3,e⟩
      · omega
      · simp only [Value.slice.injEq,true_and] at e
        obtain ⟨rfl,rfl⟩:=e
        have hmw:hi < ws.length:=by omega
        have ew':ws[hi]=w:=by rw [List.getElem?_eq_getElem hmw] at ew;exact Option.some.inj ew
        have row:((ws.flatMap c3).drop (hi * 3)).take 3=[w.1,w.2.1,w.2.2]:=by rw [fm_row c3_length hmw,ew'];rfl
        have rle:=fm_le c3_length hmw
        have bn:¬ h.next=b:=by omega
        generalize hcs:ws.flatMap c3=cs at *
        subst eQ
        simp -implicitDefEqProofs [c359_8,c359_8b,h2,AH.lays_lt b2,b3,row,rle]
        refine Cmp_s g.toCmpG W (XL _) (by have:=sw.evs;omega) (by have:=sw.rf;omega) (by have:=sw.co;omega) (fun l hl=>by have:=sw.rows l hl;omega) ?_
        simp -implicitDefEqProofs [h2,AH.lays_lt b2,b3,row,rle]
        by_cases h3:cmpM (exA L hi) x=0
        · rw [if_pos ⟨h2,h3⟩] at k
          simp -implicitDefEqProofs [h3,c359_9]
          exact k _ _ ⟨by simp,fun b hb _=>AH.lays_lt hb,fun b hb=>.inl hb,ws,by rw [hcs];exact sl.ext .lays,al⟩
        · have tail:=tail (fun e=>h3 e.2)
          simp -implicitDefEqProofs [h3]
          exact tail
    · have tail:=tail (by omega)
      subst eQ
      simp -implicitDefEqProofs [c359_8,c359_8b,h2]
      exact tail
end Go.Jq
namespace Go.Jq
variable {G:Nat→SFunc} {h h0 h1:AH} {R:Value→AH→Prop}
def leftB (x:Exe) (i:Nat):Bool:=(evA x.evs i).writes && (decide ((evA x.evs i).loc=x.co.length) && decide (i ≠ x.co.length))
def leftN (x:Exe) (j:Nat):List Int:=((List.range j).filter (leftB x)).map fun (i:Nat)=>(i:Int)
def leftM (x:Exe):List Int:=leftN x x.evs.length
theorem leftN_succ {x:Exe} {j:Nat}:leftN x (j+1)=if leftB x j=true then leftN x j++[(j:Int)] else leftN x j:=by
  unfold leftN
  rw [List.range_succ,List.filter_append,List.map_append]
  split
  · rename_i e;simp [e]
  · rename_i e;simp [e]
theorem leftN_len {x:Exe} {j:Nat}:(leftN x j).length≤j:=by
  unfold leftN
  rw [List.length_map]
  exact Nat.le_trans (List.length_filter_le _ _) (by simp)
mutual
def ordF:Nat→Nat→Exe→List Exe→Nat→Bool×List Exe
  | 0,_,_,out,_=>(false,out)
  | n+1,nl,x,out,most=>if x.co.length=nl then (decide ((insM out x).length≤most),insM out x) else perF n nl x [(x.co.length:Int)] (leftM x) out most
def perF:Nat→Nat→Exe→List Int→List Int→List Exe→Nat→Bool×List Exe
  | 0,_,_,_,_,out,_=>(false,out)
  | n + 1, nl, x, row, left, out, most => if left.length = 0 then ordF n nl { x with co := x.co ++ [row] } out most
    else (List.range left.length).foldl (fun s i=>if s.1 then perF n nl x (row++[intA left i]) (left.take i++left.drop (i+1)) s.2 most else s) (true,out)
end
structure OrdG (G:Nat→SFunc):Prop extends PutG G where
  g356:G 356=c356
  g360:G 360=c360
def ordN (nl:Nat) (x:Exe):Nat:=(nl - x.co.length) * 70+1
def perN (nl:Nat) (x:Exe) (left:List Int):Nat:=(nl - x.co.length - 1) * 70+left.length+2
def ptrV (b:Nat):Value:=.pointer (some ⟨b,0,none⟩)
def OrdSp (G:Nat→SFunc) (n:Nat):Prop:=∀ (h:AH) (R:Value→AH→Prop) (ob most nl:Nat) (L:List Exe) (v la iv tv ev rv cv:Value) (x:Exe) (a:Option Addr) (c:Nat),la=.slice a nl c→ordN nl x≤n→nl≤64→x.co.length≤nl→L.length≤most→most≤50000 →
  OutSt h ob L v→ExeV (Sd h ob v) x ev rv cv→Sm x→OutK h ob v R (ordF n nl x L most)→WC G 356 [.agg #[la,iv,tv],.agg #[ev,rv,cv],ptrV ob,.int .i64 most] h R
def PerSp (G:Nat→SFunc) (n:Nat):Prop:=∀ (h:AH) (R:Value→AH→Prop) (ob most nl:Nat) (L:List Exe) (v la iv tv ev rv cv u w:Value) (x:Exe) (row left:List Int) (a:Option Addr) (c:Nat),la=.slice a nl c→perN nl x left≤n→nl≤64→x.co.length < nl→L.length≤most→most≤50000 →
  OutSt h ob L v→ExeV (Sd h ob v) x ev rv cv→Sm x→row.length+left.length≤64→SlX 1 (Sd h ob v) row.length (row.flatMap intC) u→SlX 1 (Sd h ob v) left.length (left.flatMap intC) w →
  OutK h ob v R (perF n nl x row left L most)→WC G 360 [.agg #[la,iv,tv],.agg #[ev,rv,cv],u,w,ptrV ob,.int .i64 most] h R
theorem OutK.after {ob:Nat} {v v1:Value} {r:Bool×List Exe} (k:OutK h ob v R r) (hn:h.next≤h1.next) (x:Xt (Sd h ob v) (Sd h1 ob v1)):OutK h1 ob v1 R r :=
  fun h2 v2 n2 x2 O=>k h2 v2 (Nat.le_trans hn n2) (x.trans x2) O
theorem OutSt.put {ob:Nat} {L L1:List Exe} {v v1:Value} {x:Exe} (O:OutSt h ob L v) (P:PutR h ob v x L L1 h1 v1) (hs:∀ y ∈ L1,Sm y):OutSt (h1.put ob (.cells [v1] false false)) ob L1 v1∧Xt (Sd h ob v) (Sd (h1.put ob (.cells [v1] false false)) ob v1):=by
  obtain ⟨ws,s,a⟩:=P.ws
  have hob:=O.hob
  have nb:blkOf v1 ≠ some ob:=fun e=>by
    rcases P.blk _ e with q | q
    · exact O.ne q
    · omega
  have xt:Xt (Sd h ob v) (Sd (h1.put ob (.cells [v1] false false)) ob v1):=Sd.chg (by simpa using P.next) (fun b hb hne hv=>by rw [AH.put_get,if_neg hne,P.get b hb hv]) P.blk
  refine ⟨⟨by simp,by simpa using Nat.lt_of_lt_of_le hob P.next,nb,hs,ws,⟨s.1,?_⟩,a.imp fun _ _ _ _ e=>ExeV.xt e xt⟩,xt⟩
  rcases s.2 with q | ⟨b,b1,b2,b3,rfl⟩
  · exact .inl q
  · exact .inr ⟨b,b1,by simpa using b2,by rw [AH.put_get,if_neg (fun e=>nb (by rw [← e];rfl))];exact b3,rfl⟩
def inv356 (h:AH) (ob most:Nat) (x:Exe) (pc xc:List Value) (mm:Nat) (F:Fr) (hh:AH):Prop :=
  ∃ (j:Nat) (lv:Value),mm=x.evs.length - j∧j≤x.evs.length∧Ext (h.lays [.cells pc false false,.cells xc false false]) hh∧SlG 1 hh (h.next+2) (leftN x j).length ((leftN x j).flatMap intC) lv ∧
    F=[(2,ptrV ob),(3,.int .i64 most),(4,ptrV h.next),(5,ptrV (h.next+1)),(9,.int .i64 x.co.length),(10,lv),(11,.int .i64 j)]
set_option maxHeartbeats 1000000 in
theorem ord_step (g:OrdG G) {n:Nat} (ih:PerSp G n):OrdSp G (n+1):=by
  intro h R ob most nl L v la iv tv ev rv cv x a c hla hN hnl hco hL hm O X sx k
  subst hla
  obtain ⟨ea,ec,rfl⟩:=X.evs.len
  obtain ⟨ca,cc,rfl⟩:=X.co.len
  have hob:=O.hob
  have gob:∀ B,(h.lays B).get ob=.cells [v] false false:=fun B=>(AH.lays_lt hob).trans O.at'
  unfold ordF at k
  refine WC_enter g.g356 rfl ?_
  simp -implicitDefEqProofs [c356,c356_body,c356_0,c356_1,ptrV]
  generalize eQ:wO G c356_2 _ _ _=Q
  have xe:=sx.evs
  have xe:=sx.evs
  have xe:=sx.evs
  by_cases h1:x.co.length=nl
  · rw [if_pos h1] at k
    subst h1
    subst eQ
    simp -implicitDefEqProofs [c356_2]
    simp -implicitDefEqProofs [c356_3,c356_3b,gob]
    refine Put_d g.toPutG (O.ext .lays) (X.xt (Sd.ext .lays)) sx (by omega) fun h1' v1 P=>?_
    have hns:∀ y ∈ insM L x,Sm y:=fun y hy=>by
      rcases insM_mem hy with q | rfl
      · exact O.sm y q
      · exact sx
    obtain ⟨O1,x1⟩:=(O.ext .lays).put P hns
    have gx:h1'.get (h.next+1)=.cells [.slice ea x.evs.length ec,rv,.slice ca x.co.length cc] false false:=by
      rw [P.get _ (by simp) (fun e=>by obtain ⟨ws,s,_⟩:=O.ws;have:=(s.blk e).2;omega)];simp
    have gb:h1'.get ob=.cells [v] false false:=by rw [P.get _ (by simp;omega) (fun e=>O.ne e)];exact gob _
    obtain ⟨ws,s1,_⟩:=P.ws
    have pn:=P.next
    obtain ⟨va,vc,rfl⟩:=s1.len
    simp -implicitDefEqProofs [gx,gb,c356_4]
    exact k _ _ (by simp at pn ⊢;omega) ((Sd.ext .lays).trans x1) O1
  · rw [if_neg h1] at k
    subst eQ
    simp -implicitDefEqProofs [c356_2,h1,show ¬ (x.co.length:Int)=nl by omega,c356_5,c356_6]
    refine W_loop (inv356 h ob most x [.slice a nl c,iv,tv] [.slice ea x.evs.length ec,rv,.slice ca x.co.length cc]) x.evs.length ⟨0,_,rfl,by omega,Ext.refl _,SlG.nil,rfl⟩ ?_
    rintro mm F hh ⟨j,lv,rfl,hj,y,sl,rfl⟩
    have ny:=y.next
    simp at ny
    have xh:Ext h hh:=Ext.lays.trans y
    have gx:hh.get (h.next+1)=.cells [.slice ea x.evs.length ec,rv,.slice ca x.co.length cc] false false:=by rw [y.get _ (by simp)];simp
    have gp:hh.get h.next=.cells [.slice a nl c,iv,tv] false false:=by rw [y.get _ (by simp)];simp
    have XX:=(X.xt Sd.xt).ext xh
    simp -implicitDefEqProofs [c356_11,c356_7,ptrV,gx]
    by_cases h2:j < x.evs.length
    · have w1:IntKind.i64.wrap ((j:Int)+1)=((j+1:Nat):Int):=by rw [wrap64 (by omega)];rfl
      obtain ⟨b,o,sp,c0,gg,ro,rfl,hb,hg,hle,hrow,hr⟩:=XX.evs.rd Ev6.c_length h2
      have r3:=hr 3 (by omega)
      rw [← evA_of h2] at hrow r3
      have eL:=leftN_succ (x:=x) (j:=j)
      have ic:(evA x.evs j).c=[.int .i64 (evA x.evs j).t,.int .i64 (evA x.evs j).i,.int .i64 (evA x.evs j).kind,.int .i64 (evA x.evs j).loc,.int .i64 (evA x.evs j).r,.int .i64 (evA x.evs j).w]:=rfl
      rw [ic] at hrow r3
      simp only [List.getElem?_cons_zero,List.getElem?_cons_succ] at r3
      simp -implicitDefEqProofs [h2,gx,c356_8,hg,hle,hrow]
      refine Writes_d (e:=evA x.evs j) g.toDocG ?_
      cases eW:(evA x.evs j).writes with
      | false =>
        skip
        rw [if_neg (by simp [leftB,eW,show (1:Nat)=1 from rfl])] at eL
        simp -implicitDefEqProofs [show (1:Nat)=1 from rfl,c356_10,w1]
        exact ⟨x.evs.length - (j+1),by omega,j+1,lv,rfl,by omega,y,by rw [eL];exact sl,by simp [ptrV]⟩
      | true =>
        simp -implicitDefEqProofs [gx,hg,hle,h2,r3]
        generalize eQ:wO G _ _ _ _=Q
        by_cases a1:(evA x.evs j).loc=x.co.length
        · by_cases a2:j=x.co.length
          · have a2':(j:Int)=x.co.length:=by omega
            subst eQ
            rw [if_neg (by simp [leftB,eW,eq_true a1,eq_true a2,eq_true a2'])] at eL
            simp -implicitDefEqProofs [eq_true a1,eq_true a2,eq_true a2',c356_10,w1]
            exact ⟨x.evs.length - (j+1),by omega,j+1,lv,rfl,by omega,y,by rw [eL];exact sl,by simp [ptrV]⟩
          · have a2':¬ (j:Int)=x.co.length:=by omega
            subst eQ
            rw [if_pos (by simp [leftB,eW,eq_true a1,a2,a2'])] at eL
            simp -implicitDefEqProofs [eq_true a1,a2,a2',c356_9]
            refine (sl.ext .lays).app (m:=1) (ec:=[.int .i64 j]) (by rw [load_of (c:=[.int .i64 j]) (g:=false) (ro:=false) (by simp) (by simp)];simp) (by omega) (by have:=leftN_len (x:=x) (j:=j);omega) (by simp;omega) fun h' s' n' g'=>?_
            simp -implicitDefEqProofs [c356_10,w1]
            refine ⟨x.evs.length - (j+1),by omega,j+1,_,rfl,by omega,⟨by simp at n' ⊢;omega,fun b hb=>?_⟩,?_,rfl⟩
            · rw [g' b (by simp at hb ⊢;omega) (fun e=>by have:=(sl.blk e).1;simp at hb;omega),AH.lays_lt (by simp at hb;omega),y.get b hb]
            · rw [eL,List.length_append,List.flatMap_append]
              simpa [intC] using s'
        · subst eQ
          rw [if_neg (by simp [leftB,eW,a1])] at eL
          simp -implicitDefEqProofs [a1,c356_10,w1]
          exact ⟨x.evs.length - (j+1),by omega,j+1,lv,rfl,by omega,y,by rw [eL];exact sl,by simp [ptrV]⟩
    · have e:j=x.evs.length:=by omega
      subst e
      have sc:leftN x x.evs.length=leftM x:=rfl
      rw [sc] at sl
      have ll:(leftM x).length≤60:=by have:=leftN_len (x:=x) (j:=x.evs.length);rw [sc] at this;have:=sx.evs;omega
      simp -implicitDefEqProofs [c356_12,gp,gx]
      have xl:Ext h (hh.lays [.cells [.int .i64 x.co.length] false false]):=xh.trans .lays
      have lt:∀ b,blkOf v=some b→b < h.next:=fun b e=>by obtain ⟨ws,s,_⟩:=O.ws;exact (s.blk e).2
      refine ih _ _ ob most nl L v _ iv tv _ rv _ _ lv x [(x.co.length:Int)] (leftM x) a c rfl (by unfold ordN at hN;unfold perN;omega) hnl (by omega) hL hm (O.ext xl) (X.xt (Sd.ext xl)) sx (by simp;omega) ?_ ?_ ?_
      · refine SlX.sd ⟨by simp [intC],.inr ⟨hh.next,0,none,1,[.int .i64 x.co.length],false,false,rfl,.inl rfl,Nat.le_refl _,by simp,by simp,by simp,by simp [intC]⟩⟩ fun b hb=>?_
        simp [blkOf] at hb
        exact ⟨by omega,fun e=>by have:=lt b e;omega⟩
      · refine SlX.sd (sl.ext .lays).x fun b hb=>?_
        have:=(sl.blk hb).1
        exact ⟨by omega,fun e=>by have:=lt b e;omega⟩
      · intro h2 v2 n2 x2 O2
        simp -implicitDefEqProofs
        exact k h2 v2 (Nat.le_trans xl.next n2) ((Sd.ext xl).trans x2) O2
end Go.Jq
namespace Go.Jq
variable {G:Nat→SFunc} {h h0 h1:AH} {R:Value→AH→Prop}
def perSt (n nl:Nat) (x:Exe) (row left:List Int) (most:Nat) (s:Bool×List Exe) (i:Nat):Bool×List Exe:=if s.1 then perF n nl x (row++[intA left i]) (left.take i++left.drop (i+1)) s.2 most else s
theorem perF_eq {n nl:Nat} {x:Exe} {row left:List Int} {out:List Exe} {most:Nat}:perF (n+1) nl x row left out most=if left.length=0 then ordF n nl { x with co:=x.co++[row] } out most else (List.range left.length).foldl (perSt n nl x row left most) (true,out):=by
  rw [perF];rfl
theorem tries_len {α:Type} {f:Bool×List Exe→α→Bool×List Exe} {most:Nat} (hf:∀ s i,s.1=false→f s i=s) (hk:∀ s i,s.2.length≤most→(f s i).1=true→(f s i).2.length≤most) {l:List α} {s:Bool×List Exe} (hs:s.2.length≤most) (h:(l.foldl f s).1=true):(l.foldl f s).2.length≤most:=by
  induction l generalizing s with
  | nil=>exact hs
  | cons a l ih =>
    rw [List.foldl_cons] at h ⊢
    cases e:(f s a).1 with
    | true=>exact ih (hk s a hs e) h
    | false =>
      have:∀ (l:List α),l.foldl f (f s a)=f s a:=by
        intro l
        induction l with
        | nil=>rfl
        | cons b l ih=>rw [List.foldl_cons,hf _ _ e,ih]
      rw [this] at h
      rw [e] at h;simp at h
theorem tries_stop {f:Bool×List Exe→Nat→Bool×List Exe} (hf:∀ s i,s.1=false→f s i=s) {i n:Nat} (hi:i≤n) {s:Bool×List Exe} (h:((List.range i).foldl f s).1=false):(List.range n).foldl f s=(List.range i).foldl f s:=by
  induction n with
  | zero => have : i = 0 := by omega
            subst this;rfl
  | succ n ih =>
    by_cases e:i=n+1
    · subst e;rfl
    · rw [List.range_succ,List.foldl_append,ih (by omega),List.foldl_cons,List.foldl_nil,hf _ _ h]
theorem per_len {n:Nat}:(∀ nl x (out:List Exe) most,out.length≤most→(ordF n nl x out most).1=true→(ordF n nl x out most).2.length≤most)∧(∀ nl x row left (out:List Exe) most,out.length≤most→(perF n nl x row left out most).1=true→(perF n nl x row left out most).2.length≤most):=by
  induction n with
  | zero=>exact ⟨fun _ _ _ _ _ h=>by simp [ordF] at h,fun _ _ _ _ _ _ _ h=>by simp [perF] at h⟩
  | succ n ih =>
    refine ⟨fun nl x out most ho h=>?_,fun nl x row left out most ho h=>?_⟩
    · unfold ordF at h ⊢
      split
      · rename_i e
        rw [if_pos e] at h
        simpa using h
      · rename_i e
        rw [if_neg e] at h
        exact ih.2 _ _ _ _ _ _ ho h
    · rw [perF_eq] at h ⊢
      split
      · rename_i e
        rw [if_pos e] at h
        exact ih.1 _ _ _ _ ho h
      · rename_i e
        rw [if_neg e] at h
        refine tries_len (fun s i e=>by unfold perSt;rw [e];rfl) (fun s i hs h=>?_) (by exact ho) h
        unfold perSt at h ⊢
        split
        · rename_i e;rw [if_pos e] at h;exact ih.2 _ _ _ _ _ _ hs h
        · exact hs
theorem append_blk {h h':AH} {k bytes:Nat} {v y v':Value} (e:sappend h k bytes v y=some (v',h')) {x:Nat} (hx:blkOf v'=some x):blkOf v=some x ∨ x=h.next:=by
  unfold sappend at e
  repeat' split at e
  all_goals first
    | (simp at e;done)
    | (simp only [Option.some.injEq,Prod.mk.injEq] at e
       obtain ⟨rfl,_⟩:=e
       first
         | (simp [blkOf] at hx;done)
         | exact .inl (by simpa [blkOf] using hx)
         | (right;simpa [blkOf] using hx.symm)
         | (right;simp [blkOf] at hx;omega))
theorem join2 {k bytes m m' lo:Nat} {hA:AH} {ec ec':List Value} {y y':Value} {b:Nat} (hk:0 < k) (hb0:hA.get b=.cells [] false false) (hlo:lo≤b) (hb:b < hA.next) (t:SlX k hA m ec y) (t':SlX k hA m' ec' y') (ny':blkOf y' ≠ some b)
    (hm:(m+m') * bytes≤70368744177664):∃ v1 h1 v2 h2,sappend hA k bytes (.slice (some ⟨b,0,none⟩) 0 0) y=some (v1,h1)∧sappend h1 k bytes v1 y'=some (v2,h2)∧Own k h2 lo (m+m') (ec++ec') v2∧h1.next≤h2.next∧hA.next≤h1.next ∧
    (∀ x,x < hA.next→x ≠ b→h1.get x=hA.get x)∧(∀ x,x < hA.next→x ≠ b→h2.get x=hA.get x)∧(∀ x,blkOf v2=some x→x=b ∨ hA.next≤x):=by
  have o0:Own k hA lo 0 [] (.slice (some ⟨b,0,none⟩) 0 0):=⟨by simp,.inl ⟨rfl,b,_,_,_,hlo,hb,hb0,rfl⟩⟩
  have bl:(0+m) * bytes≤70368744177664:=by
    rw [Nat.add_mul] at hm
    rw [Nat.zero_add];omega
  obtain ⟨v1,h1,a1,a2,a3,a4⟩:=o0.append (bytes:=bytes) t bl (by omega) hk
  have f1:∀ x,x < hA.next→x ≠ b→h1.get x=hA.get x:=fun x hx hne=>a4 x hx (by simp [blkOf];omega)
  have bv:∀ x,blkOf v1=some x→x=b ∨ hA.next≤x:=fun x hx=>by
    rcases append_blk a1 hx with q | q
    · simp [blkOf] at q;exact .inl q.symm
    · omega
  have t1:SlX k h1 m' ec' y':=t'.same a3 fun x hx=>f1 x (t'.lt hx) (fun e=>ny' (by rw [hx,e]))
  rw [Nat.zero_add] at a2
  obtain ⟨v2,h2,b1,b2,b3,b4⟩:=a2.append (bytes:=bytes) t1 hm (by omega) hk
  have f2:∀ x,x < hA.next→x ≠ b→h2.get x=hA.get x:=fun x hx hne=>by
    rw [b4 x (by omega) (fun e=>by rcases bv x e with q | q;exact hne q;omega),f1 x hx hne]
  refine ⟨v1,h1,v2,h2,a1,b1,by simpa using b2,b3,a3,f1,f2,fun x hx=>?_⟩
  rcases append_blk b1 hx with q | q
  · exact bv x q
  · omega
theorem OutSt.lt {ob:Nat} {L:List Exe} {v:Value} (O:OutSt h ob L v) {b:Nat} (e:blkOf v=some b):b < h.next:=by obtain ⟨ws,s,_⟩:=O.ws;exact (s.blk e).2
theorem ExW.co {h0:AH} {x:Exe} {ev rv cv:Value} (X:ExeV h0 x ev rv cv):∃ tvs,SlX 1 h0 x.co.length tvs cv∧All2 (fun (l:List Int) u=>SlX 1 h0 l.length (l.flatMap intC) u) x.co tvs:=X.co
set_option maxHeartbeats 2000000 in
theorem per_nil (g:OrdG G) {n:Nat} (ih:OrdSp G n) {ob most nl:Nat} {L:List Exe} {v iv tv ev rv cv u w:Value} {x:Exe} {row:List Int} {a:Option Addr} {c:Nat} (hN:perN nl x []≤n+1) (hnl:nl≤64) (hco:x.co.length < nl) (hL:L.length≤most) (hm:most≤50000)
    (O:OutSt h ob L v) (X:ExeV (Sd h ob v) x ev rv cv) (sx:Sm x) (hrl:row.length≤64) (U:SlX 1 (Sd h ob v) row.length (row.flatMap intC) u) (Wn:∃ wa wc,w=.slice wa 0 wc)
    (k:OutK h ob v R (ordF n nl { x with co:=x.co++[row] } L most)):WC G 360 [.agg #[.slice a nl c,iv,tv],.agg #[ev,rv,cv],u,w,ptrV ob,.int .i64 most] h R:=by
  obtain ⟨wa,wc,rfl⟩:=Wn
  obtain ⟨tvs,T1,T2⟩:=X.co
  obtain ⟨ea,ec,rfl⟩:=X.evs.len
  obtain ⟨ra,rc,rfl⟩:=X.rf.len
  obtain ⟨ca,cc,rfl⟩:=T1.len
  obtain ⟨ua,uc,rfl⟩:=U.len
  have hob:=O.hob
  have lt:=fun b e=>O.lt (b:=b) e
  obtain ⟨hA,ehA⟩:∃ hA,hA=h.lays [.cells [.slice a nl c,iv,tv] false false,.cells [.slice ea x.evs.length ec,.slice ra x.rf.length rc,.slice ca x.co.length cc] false false,.cells [] false false,.cells [.slice ua row.length uc] false false]:=⟨_,rfl⟩
  have xA:Ext h hA:=by rw [ehA];exact .lays
  have nA:hA.next=h.next+4:=by rw [ehA];simp
  have tl:tvs.length=x.co.length:=by simpa using T1.1
  obtain ⟨v1,h1,v2,h2,a1,a2,a3,a4,a5,a6,a7,a8⟩:=join2 (k:=1) (bytes:=24) (m:=x.co.length) (m':=1) (lo:=h.next) (hA:=hA) (b:=h.next+2) (ec:=tvs) (ec':=[.slice ua row.length uc]) (y:=.slice ca x.co.length cc) (y':=.slice (some ⟨h.next+3,0,none⟩) 1 1) (by omega) (by rw [ehA];simp) (by omega) (by omega)
    ((T1.xt Sd.xt).ext xA) ⟨rfl,.inr ⟨h.next+3,0,none,1,[.slice ua row.length uc],false,false,rfl,.inl rfl,Nat.le_refl _,by omega,by rw [ehA];simp,by simp,by simp⟩⟩ (by simp [blkOf]) (by omega)
  have x1:Ext h h1:=⟨by omega,fun b hb=>by rw [a6 b (by omega) (by omega),xA.get b hb]⟩
  have x2:Ext h h2:=⟨by omega,fun b hb=>by rw [a7 b (by omega) (by omega),xA.get b hb]⟩
  have gp1:h1.get h.next=.cells [.slice a nl c,iv,tv] false false:=by rw [a6 _ (by omega) (by omega),ehA];simp
  have gx1:h1.get (h.next+1)=.cells [.slice ea x.evs.length ec,.slice ra x.rf.length rc,.slice ca x.co.length cc] false false:=by rw [a6 _ (by omega) (by omega),ehA];simp
  have gu1:h1.get (h.next+3)=.cells [.slice ua row.length uc] false false:=by rw [a6 _ (by omega) (by omega),ehA];simp
  have gp2:h2.get h.next=.cells [.slice a nl c,iv,tv] false false:=by rw [a7 _ (by omega) (by omega),ehA];simp
  have gx2:h2.get (h.next+1)=.cells [.slice ea x.evs.length ec,.slice ra x.rf.length rc,.slice ca x.co.length cc] false false:=by rw [a7 _ (by omega) (by omega),ehA];simp
  have gu2:h2.get (h.next+3)=.cells [.slice ua row.length uc] false false:=by rw [a7 _ (by omega) (by omega),ehA];simp
  obtain ⟨da,dc,rfl⟩:=a3.x.len
  rw [ehA] at a1
  refine WC_enter g.g360 rfl ?_
  simp -implicitDefEqProofs [c360,c360_body,c360_0,c360_1,ptrV,c360_2,c360_2b,a1,a2,gp1,gx1,gu1,gp2,gx2,gu2]
  refine ih _ _ ob most nl L v _ iv tv _ _ _ { x with co:=x.co++[row] } a c rfl (by unfold perN at hN;unfold ordN;simp at hN ⊢;omega) hnl (by simp;omega) hL hm (O.ext x2)
    ⟨X.evs.xt (Sd.ext x2),X.rf.xt (Sd.ext x2),tvs++[.slice ua row.length uc],?_,All2.snoc (T2.imp fun _ _ _ _ s=>s.xt (Sd.ext x2)) (U.xt (Sd.ext x2))⟩ ⟨sx.evs,sx.rf,by simp;omega,fun l hl=>?_⟩ ?_
  · have:=a3.x
    refine SlX.sd (by simpa using this) fun b hb=>?_
    rcases a8 b (by simpa using hb) with q | q
    · exact ⟨by omega,fun e=>by have:=lt b e;omega⟩
    · exact ⟨by omega,fun e=>by have:=lt b e;omega⟩
  · simp at hl
    rcases hl with hl | rfl
    · exact sx.rows l hl
    · exact hrl
  · intro h3 v3 n3 x3 O3
    simp -implicitDefEqProofs
    exact k h3 v3 (Nat.le_trans x2.next n3) ((Sd.ext x2).trans x3) O3
def inv360 (h0:AH) (ob most n nl:Nat) (x:Exe) (row left:List Int) (L:List Exe) (v u w:Value) (b:Nat) (mm:Nat) (F:Fr) (hh:AH):Prop :=
  ∃ (i:Nat) (LL:List Exe) (vv:Value),mm=left.length - i∧i≤left.length∧h0.next≤hh.next∧Xt (Sd h0 ob v) (Sd hh ob vv)∧OutSt hh ob LL vv∧LL.length≤most∧(List.range i).foldl (perSt n nl x row left most) (true,L)=(true,LL) ∧
    F=[(2,u),(3,w),(4,ptrV ob),(5,.int .i64 most),(6,ptrV b),(7,ptrV (b+1)),(13,.int .i64 i)]
set_option maxHeartbeats 4000000 in
theorem per_step (g:OrdG G) {n:Nat} (ih:OrdSp G n∧PerSp G n):PerSp G (n+1):=by
  intro h R ob most nl L v la iv tv ev rv cv u w x row left a c hla hN hnl hco hL hm O X sx hrl U Wl k
  subst hla
  have hob:=O.hob
  obtain ⟨wa,wc,rfl⟩:=Wl.len
  rw [perF_eq] at k
  by_cases h0:left.length=0
  · rw [if_pos h0] at k
    rw [h0]
    have:left=[]:=List.eq_nil_of_length_eq_zero h0
    subst this
    exact per_nil g ih.1 hN hnl hco hL hm O X sx (by omega) U ⟨_,_,rfl⟩ k
  · rw [if_neg h0] at k
    refine WC_enter g.g360 rfl ?_
    simp -implicitDefEqProofs [c360,c360_body,c360_0,c360_1,ptrV,h0,show ¬ (left.length:Int)=0 by omega,c360_3]
    obtain ⟨h2,eh2⟩:∃ h2,h2=h.lays [.cells [.slice a nl c,iv,tv] false false,.cells [ev,rv,cv] false false]:=⟨_,rfl⟩
    have x2:Ext h h2:=by rw [eh2];exact .lays
    have n2:h2.next=h.next+2:=by rw [eh2];simp
    have gp0:(Sd h2 ob v).get h.next=.cells [.slice a nl c,iv,tv] false false:=by rw [Sd.get (by omega) (fun e=>by have:=O.lt e;omega),eh2];simp
    have gx0:(Sd h2 ob v).get (h.next+1)=.cells [ev,rv,cv] false false:=by rw [Sd.get (by omega) (fun e=>by have:=O.lt e;omega),eh2];simp
    rw [← eh2]
    refine W_loop (inv360 h2 ob most n nl x row left L v u (.slice wa left.length wc) h.next) left.length ⟨0,L,v,rfl,by omega,Nat.le_refl _,Xt.refl _,O.ext x2,hL,rfl,rfl⟩ ?_
    rintro mm F hh ⟨i,LL,vv,rfl,hi,nh,xt,OO,hLL,hS,rfl⟩
    have xth:Xt (Sd h ob v) (Sd hh ob vv):=(Sd.ext x2).trans xt
    have e2n:(Sd h2 ob v).next=h2.next:=rfl
    have gp:=(Sd.up (xt.get _ _ _ _ (by omega) gp0)).2.2
    have gx:=(Sd.up (xt.get _ _ _ _ (by omega) gx0)).2.2
    have gpv:=(Sd.up (xt.get _ _ _ _ (by omega) gp0)).2.1
    have gxv:=(Sd.up (xt.get _ _ _ _ (by omega) gx0)).2.1
    simp -implicitDefEqProofs [c360_9,c360_4,ptrV]
    by_cases h1:i < left.length
    · have w1:IntKind.i64.wrap ((i:Int)+1)=((i+1:Nat):Int):=by rw [wrap64 (by omega)];rfl
      have W1:=(Wl.xt xth).xt Sd.xt
      obtain ⟨t1,et1,st1,bt1⟩:=W1.take (i:=i) (by omega) (by omega)
      obtain ⟨t2,et2,st2,bt2⟩:=W1.drop (i:=i+1) (by omega) (by omega)
      obtain ⟨hA,ehA⟩:∃ hA,hA=hh.lays [.cells [] false false]:=⟨_,rfl⟩
      have xA:Ext hh hA:=by rw [ehA];exact .lays
      have nA:hA.next=hh.next+1:=by rw [ehA];simp
      have bw:∀ b,blkOf (.slice wa left.length wc)=some b→b < hh.next:=fun b e=>W1.lt e
      obtain ⟨v1,h3,v2,h4,a1,a2,a3,a4,a5,a6,a7,a8⟩:=join2 (k:=1) (bytes:=8) (lo:=hh.next) (hA:=hA) (b:=hh.next) (by omega) (by rw [ehA];simp) (by omega) (by omega) (st1.ext xA) (st2.ext xA) (fun e=>by have:=bw _ (bt2 ▸ e);omega) (by omega)
      have x3:Ext hh h3:=⟨by omega,fun b hb=>by rw [a6 b (by omega) (by omega),xA.get b hb]⟩
      have x4:Ext hh h4:=⟨by omega,fun b hb=>by rw [a7 b (by omega) (by omega),xA.get b hb]⟩
      rw [ehA] at a1
      rw [show ((i+1:Nat):Int)=(i:Int)+1 from rfl] at et2
      obtain ⟨p1a,p1c,rfl⟩:=st1.len
      obtain ⟨p2a,p2c,rfl⟩:=st2.len
      simp -implicitDefEqProofs [h1,c360_5,c360_5b,et1,et2,w1,a1,a2]
      have gp4:=(x4.get h.next (by omega)).trans gp
      have gx4:=(x4.get (h.next+1) (by omega)).trans gx
      obtain ⟨b,o,sp,c0,gg,ro,rfl,hb,hg,hle,hrow,hr⟩:=W1.view.rd intC_length h1
      have r0:=hr 0 (by omega)
      rw [← intA_of h1] at r0
      simp only [intC,Nat.add_zero,List.getElem?_cons_zero,Nat.mul_one] at r0
      have hg4:=(x4.get b hb).trans hg
      have U4:=((U.xt xth).xt Sd.xt).ext x4
      have bu:∀ y,blkOf u=some y→y < hh.next:=fun y e=>((U.xt xth).xt Sd.xt).lt e
      obtain ⟨hB,ehB⟩:∃ hB,hB=h4.lays [.cells [] false false,.cells [.int .i64 (intA left i)] false false]:=⟨_,rfl⟩
      have xB:Ext h4 hB:=by rw [ehB];exact .lays
      have nB:hB.next=h4.next+2:=by rw [ehB];simp
      have x4n:=x4.next
      obtain ⟨v3,h5,v4,h6,b1,b2,b3,b4,b5,b6,b7,b8⟩:=join2 (k:=1) (bytes:=8) (lo:=h4.next) (hA:=hB) (b:=h4.next) (m':=1) (ec':=[.int .i64 (intA left i)]) (y':=.slice (some ⟨h4.next+1,0,none⟩) 1 1) (by omega) (by rw [ehB];simp) (by omega) (by omega) (U4.ext xB)
        ⟨rfl,.inr ⟨h4.next+1,0,none,1,[.int .i64 (intA left i)],false,false,rfl,.inl rfl,Nat.le_refl _,by omega,by rw [ehB];simp,by simp,by simp⟩⟩ (by simp [blkOf]) (by omega)
      have q5:∀ y,y < h4.next→h5.get y=h4.get y:=fun y hy=>by rw [b6 y (by omega) (by omega),xB.get y hy]
      have q6:∀ y,y < h4.next→h6.get y=h4.get y:=fun y hy=>by rw [b7 y (by omega) (by omega),xB.get y hy]
      have x6:Ext hh h6:=⟨by omega,fun y hy=>by rw [q6 y (by omega),x4.get y hy]⟩
      have gp5:=(q5 h.next (by omega)).trans gp4
      have gx5:=(q5 (h.next+1) (by omega)).trans gx4
      have gp6:=(q6 h.next (by omega)).trans gp4
      have gx6:=(q6 (h.next+1) (by omega)).trans gx4
      have hg5:=(q5 b (by omega)).trans hg4
      have hg6:=(q6 b (by omega)).trans hg4
      have go5:h5.get (h4.next+1)=.cells [.int .i64 (intA left i)] false false:=by rw [b6 _ (by omega) (by omega),ehB];simp
      have go6:h6.get (h4.next+1)=.cells [.int .i64 (intA left i)] false false:=by rw [b7 _ (by omega) (by omega),ehB];simp
      have eL1:left.take i++left.drop (i+1)=left.take i++left.drop (i+1):=rfl
      have S':(List.range (i+1)).foldl (perSt n nl x row left most) (true,L)=perF n nl x (row++[intA left i]) (left.take i++left.drop (i+1)) LL most:=by
        rw [List.range_succ,List.foldl_append,hS];rfl
      have lenOk:=fun h=>(per_len (n:=n)).2 nl x (row++[intA left i]) (left.take i++left.drop (i+1)) LL most hLL h
      have stop:=fun h=>tries_stop (f:=perSt n nl x row left most) (s:=(true,L)) (i:=i+1) (n:=left.length) (fun s j e=>by unfold perSt;rw [e];rfl) (by omega) h
      rw [S'] at stop
      have ih2:=fun R'=>ih.2 h6 R' ob most nl LL vv (.slice a nl c) iv tv ev rv cv v4 v2 x (row++[intA left i]) (left.take i++left.drop (i+1)) a c rfl (by unfold perN at hN ⊢;simp;omega) hnl hco hLL hm (OO.ext x6) (X.xt (xth.trans (Sd.ext x6))) sx (by simp;omega)
        (by
          refine SlX.sd (by simpa [intC] using b3.x) fun y hy=>?_
          rcases b8 y hy with q | q
          · exact ⟨by omega,fun e=>by have:=OO.lt e;omega⟩
          · exact ⟨by omega,fun e=>by have:=OO.lt e;omega⟩)
        (by
          have l1:(left.take i++left.drop (i+1)).length=i+(left.length - (i+1)):=by simp;omega
          have l2:(left.take i++left.drop (i+1)).flatMap intC=(left.flatMap intC).take (i * 1)++(left.flatMap intC).drop ((i+1) * 1):=by rw [fm_take intC_length,fm_drop intC_length,List.flatMap_append]
          rw [l1,l2]
          refine SlX.sd (a3.x.same (by omega) fun y hy=>q6 y (a3.x.lt hy)) fun y hy=>?_
          rcases a8 y hy with q | q
          · exact ⟨by omega,fun e=>by have:=OO.lt e;omega⟩
          · exact ⟨by omega,fun e=>by have:=OO.lt e;omega⟩)
      generalize perF n nl x (row++[intA left i]) (left.take i++left.drop (i+1)) LL most=P at *
      rw [ehB] at b1
      simp -implicitDefEqProofs [c360_6,c360_6b,AH.lays_lt (show b < h4.next by omega),AH.lays_lt (show h.next < h4.next by omega),AH.lays_lt (show h.next+1 < h4.next by omega),gp4,gx4,gp5,gx5,gp6,gx6,hg4,hg5,hg6,go5,go6,h1,r0,b1,b2]
      refine ih2 _ fun h7 v7 n7 xt7 O7=>?_
      have xt':Xt (Sd h2 ob v) (Sd h7 ob v7):=xt.trans ((Sd.ext x6).trans xt7)
      have nn:=x6.next
      cases eP:P.1 with
      | true =>
        simp -implicitDefEqProofs [c360_8,w1]
        refine ⟨left.length - (i+1),by omega,i+1,P.2,v7,rfl,by omega,by omega,xt',O7,lenOk eP,by rw [S',← eP],by simp [ptrV]⟩
      | false =>
        have:=stop eP
        simp -implicitDefEqProofs [c360_7]
        rw [this] at k
        have kk:=k h7 v7 (by omega) ((Sd.ext x2).trans xt') O7
        rw [eP] at kk
        exact kk
    · have e:i=left.length:=by omega
      subst e
      rw [hS] at k
      simp -implicitDefEqProofs [c360_10]
      exact k hh vv (by omega) xth OO
theorem ordper (g:OrdG G) (n:Nat):OrdSp G n∧PerSp G n:=by
  induction n with
  | zero=>exact ⟨fun _ _ _ _ _ _ _ _ _ _ _ _ _ _ _ _ _ h=>by unfold ordN at h;omega,fun _ _ _ _ _ _ _ _ _ _ _ _ _ _ _ _ _ _ _ _ _ h=>by unfold perN at h;omega⟩
  | succ n ih=>exact ⟨ord_step g ih.2,per_step g ih⟩
end Go.Jq
namespace Go.Jq
variable {G:Nat→SFunc} {h h0 h1:AH} {R:Value→AH→Prop}
def srcOk (evs:List Ev6) (i k:Nat):Bool:=decide (k ≠ i) && ((evA evs k).writes && (decide ((evA evs k).loc=(evA evs i).loc) && decide ((evA evs k).w=(evA evs i).r)))
def srcR (evs:List Ev6) (rf:List Int) (j a b:Nat):Bool:=poP evs a b || (decide (b < j) && decide (intA rf b=a))
def srcF:Nat→Nat→List Ev6→List Int→List Exe→Nat→Bool×List Exe
  | 0,_,_,_,out,_=>(false,out)
  | n + 1, nl, evs, rf, out, most => if rf.length = evs.length then (if acyM evs.length (relOf evs.length (srcR evs rf rf.length)) then ordF 5000 nl ⟨evs, rf, []⟩ out most else (true, out))
    else if (evA evs rf.length).reads then (List.range evs.length).foldl (fun s k=>if s.1 && srcOk evs rf.length k then srcF n nl evs (rf++[(k:Int)]) s.2 most else s) (true,out)
    else srcF n nl evs (rf++[-1]) out most
def srcSt (n nl:Nat) (evs:List Ev6) (rf:List Int) (most:Nat) (s:Bool×List Exe) (k:Nat):Bool×List Exe:=if s.1 && srcOk evs rf.length k then srcF n nl evs (rf++[(k:Int)]) s.2 most else s
theorem srcF_eq {n nl:Nat} {evs:List Ev6} {rf:List Int} {out:List Exe} {most:Nat}:srcF (n+1) nl evs rf out most=if rf.length=evs.length then (if acyM evs.length (relOf evs.length (srcR evs rf rf.length)) then ordF 5000 nl ⟨evs,rf,[]⟩ out most else (true,out))
    else if (evA evs rf.length).reads then (List.range evs.length).foldl (srcSt n nl evs rf most) (true,out) else srcF n nl evs (rf++[-1]) out most:=by
  rw [srcF];rfl
theorem src_len {n:Nat}:∀ nl evs rf (out:List Exe) most,out.length≤most→(srcF n nl evs rf out most).1=true→(srcF n nl evs rf out most).2.length≤most:=by
  induction n with
  | zero=>intro _ _ _ _ _ _ h;simp [srcF] at h
  | succ n ih =>
    intro nl evs rf out most ho h
    rw [srcF_eq] at h ⊢
    split
    · rename_i e
      rw [if_pos e] at h
      split
      · rename_i e2
        rw [if_pos e2] at h
        exact per_len.1 _ _ _ _ ho h
      · exact ho
    · rename_i e
      rw [if_neg e] at h
      split
      · rename_i e2
        rw [if_pos e2] at h
        refine tries_len (fun s i e=>by unfold srcSt;rw [e];rfl) (fun s i hs h=>?_) (by exact ho) h
        unfold srcSt at h ⊢
        split
        · rename_i e;rw [if_pos e] at h;exact ih _ _ _ _ _ hs h
        · exact hs
      · rename_i e2
        rw [if_neg e2] at h
        exact ih _ _ _ _ _ ho h
structure SrcG (G:Nat→SFunc):Prop extends OrdG G where
  g352:G 352=c352
def rfOk (n:Nat) (rf:List Int):Prop:=∀ y ∈ rf,-1≤y∧y < n
def SrcSp (G:Nat→SFunc) (n:Nat):Prop:=∀ (h:AH) (R:Value→AH→Prop) (ob most nl:Nat) (L:List Exe) (v la iv tv ev rv:Value) (evs:List Ev6) (rf:List Int) (a:Option Addr) (c:Nat),la=.slice a nl c→evs.length - rf.length < n→nl≤60→evs.length≤60→rf.length≤evs.length→rfOk evs.length rf→L.length≤most→most≤50000 →
  OutSt h ob L v→SlV 6 (Sd h ob v) evs.length (evs.flatMap Ev6.c) ev→SlX 1 (Sd h ob v) rf.length (rf.flatMap intC) rv→OutK h ob v R (srcF n nl evs rf L most)→WC G 352 [.agg #[la,iv,tv],.agg #[ev,rv,.slice none 0 0],ptrV ob,.int .i64 most] h R
def inv352a (h0:AH) (ob most:Nat) (evs:List Ev6) (rf:List Int) (B:List ABlk) (mm:Nat) (F:Fr) (hh:AH):Prop :=
  ∃ j:Nat,mm=rf.length - j∧j≤rf.length∧hh=h0.lays (B++[.cells (relC evs.length (relOf evs.length (srcR evs rf j))) false false])∧F=[(2,ptrV ob),(3,.int .i64 most),(4,ptrV h0.next),(5,ptrV (h0.next+1)),(9,.int .i64 rf.length),(10,ptrV (h0.next+2)),(11,.int .i64 j)]
def inv352b (h0:AH) (ob most n nl:Nat) (evs:List Ev6) (rf:List Int) (L:List Exe) (v:Value) (b:Nat) (mm:Nat) (F:Fr) (hh:AH):Prop :=
  ∃ (j:Nat) (LL:List Exe) (vv:Value),mm=evs.length - j∧j≤evs.length∧h0.next≤hh.next∧Xt (Sd h0 ob v) (Sd hh ob vv)∧OutSt hh ob LL vv∧LL.length≤most∧(List.range j).foldl (srcSt n nl evs rf most) (true,L)=(true,LL) ∧
    F=[(2,ptrV ob),(3,.int .i64 most),(4,ptrV b),(5,ptrV (b+1)),(9,.int .i64 rf.length),(12,ptrV (b+2)),(13,.int .i64 j)]
theorem srcR_zero {evs:List Ev6} {rf:List Int}:relOf evs.length (srcR evs rf 0)=relOf evs.length (poP evs):=relOf_ext fun a b _ _=>by simp [srcR]
theorem srcR_add {evs:List Ev6} {rf:List Int} {j p:Nat} (hn:evs.length≤64) (e:intA rf j=p):addR evs.length (relOf evs.length (srcR evs rf j)) p j=relOf evs.length (srcR evs rf (j+1)):=by
  rw [addR_of hn]
  refine relOf_ext fun a b _ _=>?_
  unfold srcR
  by_cases hb:b=j
  · subst hb
    have:decide ((p:Int)=a)=decide (a=p):=by rw [Bool.eq_iff_iff];simp;omega
    simp [e,this,Bool.or_assoc]
  · have:decide (b < j+1)=decide (b < j):=by simp;omega
    simp [hb,this]
theorem srcR_skip {evs:List Ev6} {rf:List Int} {j:Nat} (e:intA rf j < 0):relOf evs.length (srcR evs rf j)=relOf evs.length (srcR evs rf (j+1)):=by
  refine relOf_ext fun a b _ _=>?_
  unfold srcR
  by_cases hb:b=j
  · subst hb
    have:¬ intA rf b=(a:Int):=by omega
    simp [this]
  · have:decide (b < j+1)=decide (b < j):=by simp;omega
    simp [this]
set_option maxHeartbeats 4000000 in
theorem src_step (g:SrcG G) {n:Nat} (ih:SrcSp G n):SrcSp G (n+1):=by
  intro h R ob most nl L v la iv tv ev rv evs rf a c hla hN hnl he hre hro hL hm O E V k
  subst hla
  obtain ⟨ea,ec,rfl⟩:=E.len
  obtain ⟨ra,rc,rfl⟩:=V.len
  have hob:=O.hob
  rw [srcF_eq] at k
  refine WC_enter g.g352 rfl ?_
  simp -implicitDefEqProofs [c352,c352_body,c352_0,c352_1,ptrV]
  by_cases h1:rf.length=evs.length
  · rw [if_pos h1] at k
    simp -implicitDefEqProofs [c352_2,h1,c352_3]
    refine PO_d g.toDocG ((E.xt Sd.xt).ext .lays) ?_
    rw [show poN evs=evs.length from if_neg (by omega),← srcR_zero (rf:=rf)]
    simp -implicitDefEqProofs [relV,relC_take,zrel_splice,zrel_length,c352_4]
    rw [← h1]
    refine W_loop (inv352a h ob most evs rf [.cells [.slice a nl c,iv,tv] false false,.cells [.slice ea evs.length ec,.slice ra rf.length rc,.slice none 0 0] false false]) rf.length ⟨0,rfl,by omega,by rw [h1];rfl,by simp [ptrV]⟩ ?_
    rintro mm F hh ⟨j,rfl,hj,rfl,rfl⟩
    simp -implicitDefEqProofs [c352_9,c352_5,ptrV]
    have V1:=(V.xt Sd.xt).view
    by_cases h2:j < rf.length
    · have w1:IntKind.i64.wrap ((j:Int)+1)=((j+1:Nat):Int):=by rw [wrap64 (by omega)];rfl
      obtain ⟨b,o,sp,c0,gg,ro,rfl,hb,hg,hle,hrow,hr⟩:=V1.rd intC_length h2
      have r0:=hr 0 (by omega)
      rw [← intA_of h2] at r0
      simp only [intC,Nat.add_zero,List.getElem?_cons_zero,Nat.mul_one] at r0
      have hrj:=hro (intA rf j) (by rw [intA_of h2];exact List.getElem_mem h2)
      simp -implicitDefEqProofs [h2,c352_6,AH.lays_lt hb,hg,r0]
      generalize eQ:branchK G _ _ _ _ _=Q
      by_cases h3:0≤intA rf j
      · obtain ⟨p,hp⟩:=Int.eq_ofNat_of_zero_le h3
        have up:=addUp (r:=relOf evs.length (srcR evs rf j)) (n:=evs.length) (a:=p) (b:=j) (by omega) (by omega) (by omega)
        rw [srcR_add (by omega) hp] at up
        subst eQ
        simp -implicitDefEqProofs [h3,c352_7,AH.lays_lt hb,hg,r0,h2,hp]
        refine Add_d (n:=evs.length) (p:=h.next+2) (a:=p) (b:=j) (r:=relOf evs.length (srcR evs rf j)) g.toDocG (by simp) (relOf_ok (by omega) _) (by omega) (by omega) ?_
        rw [up]
        simp -implicitDefEqProofs [c352_8,w1]
        exact ⟨rf.length - (j+1),by omega,j+1,rfl,by omega,by simp,by simp [ptrV]⟩
      · have sk:=srcR_skip (evs:=evs) (rf:=rf) (j:=j) (by omega)
        subst eQ
        simp -implicitDefEqProofs [h3,c352_8,w1]
        exact ⟨rf.length - (j+1),by omega,j+1,rfl,by omega,by rw [← sk];simp,by simp [ptrV]⟩
    · have e:j=rf.length:=by omega
      subst e
      simp -implicitDefEqProofs [c352_10,relC_take]
      refine Acyclic_d g.toDocG (by omega) (relOf_ok (by omega)) ?_
      cases eA:acyM evs.length (relOf evs.length (srcR evs rf rf.length)) with
      | false =>
        rw [eA] at k
        simp -implicitDefEqProofs
        exact k _ v (by simp) (Sd.ext .lays) (O.ext .lays)
      | true =>
        rw [eA,if_pos rfl] at k
        simp -implicitDefEqProofs
        refine (ordper g.toOrdG 5000).1 _ _ ob most nl L v _ iv tv _ _ _ ⟨evs,rf,[]⟩ a c rfl (by unfold ordN;simp;omega) (by omega) (by simp) hL hm (O.ext .lays) ⟨E.xt (Sd.ext .lays),(V.xt (Sd.ext .lays)).view,[],SlX.nil,.nil⟩ ⟨he,by simp;omega,by simp,by simp⟩ ?_
        intro h2 v2 n2 x2 O2
        simp -implicitDefEqProofs
        exact k h2 v2 (by simp at n2;omega) ((Sd.ext .lays).trans x2) O2
  · rw [if_neg h1] at k
    have h1':rf.length < evs.length:=by omega
    obtain ⟨b,o,sp,c0,gg,ro,rfl,hb,hg,rds⟩:=(E.xt Sd.xt).rds Ev6.c_length (by omega)
    obtain ⟨hle,hrow,_⟩:=rds _ h1'
    rw [← evA_of h1'] at hrow
    have ic:∀ i,(evA evs i).c=[.int .i64 (evA evs i).t,.int .i64 (evA evs i).i,.int .i64 (evA evs i).kind,.int .i64 (evA evs i).loc,.int .i64 (evA evs i).r,.int .i64 (evA evs i).w]:=fun _=>rfl
    have z6:zi 6=[.int .i64 0,.int .i64 0,.int .i64 0,.int .i64 0,.int .i64 0,.int .i64 0]:=rfl
    simp -implicitDefEqProofs [c352_2,h1,show ¬ (rf.length:Int)=evs.length by omega,c352_11,AH.lays_lt hb,hg,hle,hrow,ic,h1',z6,splice]
    simp -implicitDefEqProofs [c352_12]
    refine Reads_d (e:=evA evs rf.length) g.toDocG ?_
    cases eR:(evA evs rf.length).reads with
    | false =>
      rw [eR,if_neg (by simp)] at k
      simp -implicitDefEqProofs
      obtain ⟨hA,ehA⟩:∃ hA,hA=h.lays [.cells [.slice a nl c,iv,tv] false false,.cells [.slice (some ⟨b,o,sp⟩) evs.length ec,.slice ra rf.length rc,.slice none 0 0] false false,.cells [.int .i64 (evA evs rf.length).t,.int .i64 (evA evs rf.length).i,.int .i64 (evA evs rf.length).kind,.int .i64 (evA evs rf.length).loc,.int .i64 (evA evs rf.length).r,.int .i64 (evA evs rf.length).w] false false,.cells [] false false,.cells [.int .i64 (-1)] false false]:=⟨_,rfl⟩
      have xA:Ext h hA:=by rw [ehA];exact .lays
      have nA:hA.next=h.next+5:=by rw [ehA];simp
      obtain ⟨v1,h3,v2,h4,a1,a2,a3,a4,a5,a6,a7,a8⟩:=join2 (k:=1) (bytes:=8) (lo:=h.next) (hA:=hA) (b:=h.next+3) (m':=1) (ec':=[.int .i64 (-1)]) (y':=.slice (some ⟨h.next+4,0,none⟩) 1 1) (by omega) (by rw [ehA];simp) (by omega) (by omega) ((V.xt Sd.xt).ext xA)
        ⟨rfl,.inr ⟨h.next+4,0,none,1,[.int .i64 (-1)],false,false,rfl,.inl rfl,Nat.le_refl _,by omega,by rw [ehA];simp,by simp,by simp⟩⟩ (by simp [blkOf]) (by omega)
      have x4:Ext h h4:=⟨by omega,fun y hy=>by rw [a7 y (by omega) (by omega),xA.get y hy]⟩
      have gp3:h3.get h.next=.cells [.slice a nl c,iv,tv] false false:=by rw [a6 _ (by omega) (by omega),ehA];simp
      have gx3:h3.get (h.next+1)=.cells [.slice (some ⟨b,o,sp⟩) evs.length ec,.slice ra rf.length rc,.slice none 0 0] false false:=by rw [a6 _ (by omega) (by omega),ehA];simp
      have gp4:h4.get h.next=.cells [.slice a nl c,iv,tv] false false:=by rw [a7 _ (by omega) (by omega),ehA];simp
      have gx4:h4.get (h.next+1)=.cells [.slice (some ⟨b,o,sp⟩) evs.length ec,.slice ra rf.length rc,.slice none 0 0] false false:=by rw [a7 _ (by omega) (by omega),ehA];simp
      have go3:h3.get (h.next+4)=.cells [.int .i64 (-1)] false false:=by rw [a6 _ (by omega) (by omega),ehA];simp
      have go4:h4.get (h.next+4)=.cells [.int .i64 (-1)] false false:=by rw [a7 _ (by omega) (by omega),ehA];simp
      obtain ⟨da,dc,rfl⟩:=a3.x.len
      rw [ehA] at a1
      simp -implicitDefEqProofs [c352_13,c352_13b,a1,a2,gp3,gx3,gp4,gx4,go3,go4]
      refine ih h4 _ ob most nl L v _ iv tv _ _ evs (rf++[-1]) a c rfl (by simp;omega) hnl he (by simp;omega) (fun y hy=>by simp at hy;rcases hy with hy | rfl;exact hro y hy;omega) hL hm (O.ext x4) (E.xt (Sd.ext x4)) ?_ ?_
      · refine SlX.sd (by simpa [intC] using a3.x) fun y hy=>?_
        rcases a8 y hy with q | q
        · exact ⟨by omega,fun e=>by have:=O.lt e;omega⟩
        · exact ⟨by omega,fun e=>by have:=O.lt e;omega⟩
      · intro h5 v5 n5 x5 O5
        simp -implicitDefEqProofs
        exact k h5 v5 (Nat.le_trans x4.next n5) ((Sd.ext x4).trans x5) O5
    | true =>
      rw [eR,if_pos rfl] at k
      simp -implicitDefEqProofs [c352_14]
      obtain ⟨h2,eh2⟩:∃ h2,h2=h.lays [.cells [.slice a nl c,iv,tv] false false,.cells [.slice (some ⟨b,o,sp⟩) evs.length ec,.slice ra rf.length rc,.slice none 0 0] false false,.cells [.int .i64 (evA evs rf.length).t,.int .i64 (evA evs rf.length).i,.int .i64 (evA evs rf.length).kind,.int .i64 (evA evs rf.length).loc,.int .i64 (evA evs rf.length).r,.int .i64 (evA evs rf.length).w] false false]:=⟨_,rfl⟩
      have x2:Ext h h2:=by rw [eh2];exact .lays
      have n2:h2.next=h.next+3:=by rw [eh2];simp
      have gp0:(Sd h2 ob v).get h.next=.cells [.slice a nl c,iv,tv] false false:=by rw [Sd.get (by omega) (fun e=>by have:=O.lt e;omega),eh2];simp
      have gx0:(Sd h2 ob v).get (h.next+1)=.cells [.slice (some ⟨b,o,sp⟩) evs.length ec,.slice ra rf.length rc,.slice none 0 0] false false:=by rw [Sd.get (by omega) (fun e=>by have:=O.lt e;omega),eh2];simp
      have ge0:(Sd h2 ob v).get (h.next+2)=.cells [.int .i64 (evA evs rf.length).t,.int .i64 (evA evs rf.length).i,.int .i64 (evA evs rf.length).kind,.int .i64 (evA evs rf.length).loc,.int .i64 (evA evs rf.length).r,.int .i64 (evA evs rf.length).w] false false:=by rw [Sd.get (by omega) (fun e=>by have:=O.lt e;omega),eh2];simp
      rw [← eh2]
      refine W_loop (inv352b h2 ob most n nl evs rf L v h.next) evs.length ⟨0,L,v,rfl,by omega,Nat.le_refl _,Xt.refl _,O.ext x2,hL,rfl,rfl⟩ ?_
      rintro mm F hh ⟨j,LL,vv,rfl,hj,nh,xt,OO,hLL,hS,rfl⟩
      have xth:Xt (Sd h ob v) (Sd hh ob vv):=(Sd.ext x2).trans xt
      have e2n:(Sd h2 ob v).next=h2.next:=rfl
      have gp:=(Sd.up (xt.get _ _ _ _ (by omega) gp0)).2.2
      have gx:=(Sd.up (xt.get _ _ _ _ (by omega) gx0)).2.2
      have ge:=(Sd.up (xt.get _ _ _ _ (by omega) ge0)).2.2
      simp -implicitDefEqProofs [c352_21,c352_15,ptrV,gx]
      by_cases h3:j < evs.length
      · have w1:IntKind.i64.wrap ((j:Int)+1)=((j+1:Nat):Int):=by rw [wrap64 (by omega)];rfl
        obtain ⟨b',o',sp',c0',gg',ro',e',hb',hg',hle',hrow',_⟩:=((E.xt xth).xt Sd.xt).rd Ev6.c_length h3
        simp only [Option.some.injEq,Addr.mk.injEq] at e'
        obtain ⟨rfl,rfl,rfl⟩:=e'
        rw [← evA_of h3] at hrow'
        have S':(List.range (j+1)).foldl (srcSt n nl evs rf most) (true,L)=if srcOk evs rf.length j=true then srcF n nl evs (rf++[(j:Int)]) LL most else (true,LL):=by
          rw [List.range_succ,List.foldl_append,hS];rfl
        have xl:∀ {B},Ext hh (hh.lays B):=.lays
        simp -implicitDefEqProofs [h3,gx,c352_16,hg',hle',hrow',ic,z6,splice]
        generalize eQ:wO G c352_17 _ _ _=Q
        by_cases b1:j=rf.length
        · have b1':(j:Int)=rf.length:=by omega
          subst eQ
          simp -implicitDefEqProofs [c352_17,eq_true b1',eq_true b1]
          simp -implicitDefEqProofs [eq_true b1,c352_20,w1]
          exact ⟨evs.length - (j+1),by omega,j+1,LL,vv,rfl,by omega,by simp;omega,xt.trans (Sd.ext xl),OO.ext xl,hLL,by rw [S',if_neg (by simp [srcOk,eq_true b1])],by simp [ptrV]⟩
        · have b1':¬ (j:Int)=rf.length:=by omega
          subst eQ
          simp -implicitDefEqProofs [c352_17,b1',b1]
          refine Writes_d (e:=evA evs j) g.toDocG ?_
          cases b2:(evA evs j).writes with
          | false =>
            simp -implicitDefEqProofs [b1,b2,c352_20,w1]
            exact ⟨evs.length - (j+1),by omega,j+1,LL,vv,rfl,by omega,by simp;omega,xt.trans (Sd.ext xl),OO.ext xl,hLL,by rw [S',if_neg (by simp [srcOk,b1,b2])],by simp [ptrV]⟩
          | true =>
            simp -implicitDefEqProofs
            generalize eQ:wO G _ _ _ _=Q
            by_cases b3:(evA evs j).loc=(evA evs rf.length).loc
            · by_cases b4:(evA evs j).w=(evA evs rf.length).r
              · subst eQ
                rw [if_pos (by simp [srcOk,b1,b2,b3,b4])] at S'
                have lk:=fun (B:List ABlk)=>AH.lays_lt (h:=hh) (L:=B) (show h.next < hh.next by omega)
                have lk1:=fun (B:List ABlk)=>AH.lays_lt (h:=hh) (L:=B) (show h.next+1 < hh.next by omega)
                have lk2:=fun (B:List ABlk)=>AH.lays_lt (h:=hh) (L:=B) (show h.next+2 < hh.next by omega)
                obtain ⟨hA,ehA⟩:∃ hA,hA=hh.lays [.cells [.int .i64 (evA evs j).t,.int .i64 (evA evs j).i,.int .i64 (evA evs j).kind,.int .i64 (evA evs j).loc,.int .i64 (evA evs j).r,.int .i64 (evA evs j).w] false false,.cells [] false false,.cells [.int .i64 j] false false]:=⟨_,rfl⟩
                have xA:Ext hh hA:=by rw [ehA];exact .lays
                have nA:hA.next=hh.next+3:=by rw [ehA];simp
                obtain ⟨v1,h5,v2,h6,a1,a2,a3,a4,a5,a6,a7,a8⟩:=join2 (k:=1) (bytes:=8) (lo:=hh.next) (hA:=hA) (b:=hh.next+1) (m':=1) (ec':=[.int .i64 j]) (y':=.slice (some ⟨hh.next+2,0,none⟩) 1 1) (by omega) (by rw [ehA];simp) (by omega) (by omega) (((V.xt xth).xt Sd.xt).ext xA)
                  ⟨rfl,.inr ⟨hh.next+2,0,none,1,[.int .i64 j],false,false,rfl,.inl rfl,Nat.le_refl _,by omega,by rw [ehA];simp,by simp,by simp⟩⟩ (by simp [blkOf]) (by omega)
                have x6:Ext hh h6:=⟨by omega,fun y hy=>by rw [a7 y (by omega) (by omega),xA.get y hy]⟩
                have f5:∀ y,y < hh.next→h5.get y=hh.get y:=fun y hy=>by rw [a6 y (by omega) (by omega),xA.get y hy]
                have gp5:=(f5 h.next (by omega)).trans gp
                have gx5:=(f5 (h.next+1) (by omega)).trans gx
                have gp6:=(x6.get h.next (by omega)).trans gp
                have gx6:=(x6.get (h.next+1) (by omega)).trans gx
                have go5:h5.get (hh.next+2)=.cells [.int .i64 j] false false:=by rw [a6 _ (by omega) (by omega),ehA];simp
                have go6:h6.get (hh.next+2)=.cells [.int .i64 j] false false:=by rw [a7 _ (by omega) (by omega),ehA];simp
                obtain ⟨da,dc,rfl⟩:=a3.x.len
                rw [ehA] at a1
                have stop:=fun h=>tries_stop (f:=srcSt n nl evs rf most) (s:=(true,L)) (i:=j+1) (n:=evs.length) (fun s j e=>by unfold srcSt;rw [e];rfl) (by omega) h
                rw [S'] at stop
                have lenOk:=fun h=>src_len (n:=n) nl evs (rf++[(j:Int)]) LL most hLL h
                have ih2:=fun R'=>ih h6 R' ob most nl LL vv (.slice a nl c) iv tv (.slice (some ⟨b,o,sp⟩) evs.length ec) (.slice da (rf.length+1) dc) evs (rf++[(j:Int)]) a c rfl (by simp;omega) hnl he (by simp;omega) (fun y hy=>by simp at hy;rcases hy with hy | rfl;exact hro y hy;omega) hLL hm (OO.ext x6) (E.xt (xth.trans (Sd.ext x6)))
                  (by
                    refine SlX.sd (by simpa [intC] using a3.x) fun y hy=>?_
                    rcases a8 y hy with q | q
                    · exact ⟨by omega,fun e=>by have:=OO.lt e;omega⟩
                    · exact ⟨by omega,fun e=>by have:=OO.lt e;omega⟩)
                generalize srcF n nl evs (rf++[(j:Int)]) LL most=P at *
                simp -implicitDefEqProofs [lk,lk1,lk2,gp,gx,ge,eq_true b3,eq_true b4,c352_18,c352_18b,a1,a2,gp5,gx5,gp6,gx6,go5,go6]
                refine ih2 _ fun h7 v7 n7 xt7 O7=>?_
                have xt':Xt (Sd h2 ob v) (Sd h7 ob v7):=xt.trans ((Sd.ext x6).trans xt7)
                have nn:=x6.next
                cases eP:P.1 with
                | true =>
                  simp -implicitDefEqProofs [c352_20,w1]
                  exact ⟨evs.length - (j+1),by omega,j+1,P.2,v7,rfl,by omega,by omega,xt',O7,lenOk eP,by rw [S',← eP],by simp [ptrV]⟩
                | false =>
                  have:=stop eP
                  simp -implicitDefEqProofs [c352_19]
                  rw [this] at k
                  have kk:=k h7 v7 (by omega) ((Sd.ext x2).trans xt') O7
                  rw [eP] at kk
                  exact kk
              · subst eQ
                simp -implicitDefEqProofs [b1,b2,eq_true b3,b4,AH.lays_lt (show h.next+2 < hh.next by omega),ge,c352_20,w1]
                exact ⟨evs.length - (j+1),by omega,j+1,LL,vv,rfl,by omega,by simp;omega,xt.trans (Sd.ext xl),OO.ext xl,hLL,by rw [S',if_neg (by simp [srcOk,b1,b2,eq_true b3,b4,AH.lays_lt (show h.next+2 < hh.next by omega),ge])],by simp [ptrV]⟩
            · subst eQ
              simp -implicitDefEqProofs [b1,b2,b3,AH.lays_lt (show h.next+2 < hh.next by omega),ge,c352_20,w1]
              exact ⟨evs.length - (j+1),by omega,j+1,LL,vv,rfl,by omega,by simp;omega,xt.trans (Sd.ext xl),OO.ext xl,hLL,by rw [S',if_neg (by simp [srcOk,b1,b2,b3,AH.lays_lt (show h.next+2 < hh.next by omega),ge])],by simp [ptrV]⟩
      · have e:j=evs.length:=by omega
        subst e
        rw [hS] at k
        simp -implicitDefEqProofs [c352_22]
        exact k hh vv (by omega) xth OO
theorem src_all (g:SrcG G) (n:Nat):SrcSp G n:=by
  induction n with
  | zero=>intro _ _ _ _ _ _ _ _ _ _ _ _ _ _ _ _ _ h;omega
  | succ n ih=>exact src_step g ih
end Go.Jq
namespace Go.Jq
variable {G:Nat→SFunc} {h h0 h1:AH} {R:Value→AH→Prop}
def unA (un:List (List (List Ev6))) (t:Nat):List (List Ev6):=(un[t]?).getD []
def rowA (l:List (List Ev6)) (i:Nat):List Ev6:=(l[i]?).getD []
def chF:Nat→Nat→Nat→Nat→List Ev6→List (List (List Ev6))→List Exe→Nat→Bool×List Exe
  | 0,_,_,_,_,_,out,_=>(false,out)
  | n + 1, nl, T, t, evs, un, out, most => if t = T then srcF 100 nl evs [] out most
    else (List.range (unA un t).length).foldl (fun s i=>if s.1 then chF n nl T (t+1) (evs++rowA (unA un t) i) un s.2 most else s) (true,out)
def chSt (n nl T t:Nat) (evs:List Ev6) (un:List (List (List Ev6))) (most:Nat) (s:Bool×List Exe) (i:Nat):Bool×List Exe:=if s.1 then chF n nl T (t+1) (evs++rowA (unA un t) i) un s.2 most else s
theorem chF_eq {n nl T t:Nat} {evs:List Ev6} {un:List (List (List Ev6))} {out:List Exe} {most:Nat}:chF (n+1) nl T t evs un out most=if t=T then srcF 100 nl evs [] out most else (List.range (unA un t).length).foldl (chSt n nl T t evs un most) (true,out):=by
  rw [chF];rfl
theorem ch_len {n:Nat}:∀ nl T t evs un (out:List Exe) most,out.length≤most→(chF n nl T t evs un out most).1=true→(chF n nl T t evs un out most).2.length≤most:=by
  induction n with
  | zero=>intro _ _ _ _ _ _ _ _ h;simp [chF] at h
  | succ n ih =>
    intro nl T t evs un out most ho h
    rw [chF_eq] at h ⊢
    split
    · rename_i e
      rw [if_pos e] at h
      exact src_len _ _ _ _ _ ho h
    · rename_i e
      rw [if_neg e] at h
      refine tries_len (fun s i e=>by unfold chSt;rw [e];rfl) (fun s i hs h=>?_) (by exact ho) h
      unfold chSt at h ⊢
      split
      · rename_i e;rw [if_pos e] at h;exact ih _ _ _ _ _ _ _ hs h
      · exact hs
structure ChG (G:Nat→SFunc):Prop extends SrcG G where
  g345:G 345=c345
structure UnV (h:AH) (un:List (List (List Ev6))) (uvs:List Value):Prop where
  len:uvs.length=4
  lenU:un.length=4
  row:∀ t (hu:t < un.length) (hv:t < uvs.length),NestX Ev6.c 6 h un[t] uvs[t]
theorem UnV.xt {un:List (List (List Ev6))} {uvs:List Value} (U:UnV h un uvs) (x:Xt h h1):UnV h1 un uvs:=⟨U.len,U.lenU,fun t hu hv=>(U.row t hu hv).xt x⟩
def UnS (un:List (List (List Ev6))):Prop:=∀ t,(∀ l ∈ unA un t,l.length≤11)∧(unA un t).length≤100000
def ChSp (G:Nat→SFunc) (n:Nat):Prop:=∀ (h:AH) (R:Value→AH→Prop) (ob most nl T t:Nat) (L:List Exe) (v la iv tv ev:Value) (evs:List Ev6) (un:List (List (List Ev6))) (uvs:List Value) (a:Option Addr) (c:Nat) (ta:Option Addr) (tc:Nat),la=.slice a nl c→tv=.slice ta T tc→T - t < n→t≤T→T≤4→nl≤60→evs.length+11 * (T - t)≤60→L.length≤most→most≤50000→UnS un →
  OutSt h ob L v→SlX 6 (Sd h ob v) evs.length (evs.flatMap Ev6.c) ev→UnV (Sd h ob v) un uvs→OutK h ob v R (chF n nl T t evs un L most)→WC G 345 [.agg #[la,iv,tv],.int .i64 t,ev,.agg uvs.toArray,ptrV ob,.int .i64 most] h R
def inv345 (h0:AH) (ob most n nl T t:Nat) (evs:List Ev6) (un:List (List (List Ev6))) (L:List Exe) (v ev:Value) (b:Nat) (mm:Nat) (F:Fr) (hh:AH):Prop :=
  ∃ (i:Nat) (LL:List Exe) (vv:Value),mm=(unA un t).length - i∧i≤(unA un t).length∧h0.next≤hh.next∧Xt (Sd h0 ob v) (Sd hh ob vv)∧OutSt hh ob LL vv∧LL.length≤most∧(List.range i).foldl (chSt n nl T t evs un most) (true,L)=(true,LL) ∧
    F=[(1,.int .i64 t),(2,ev),(4,ptrV ob),(5,.int .i64 most),(6,ptrV b),(9,ptrV (b+1)),(13,.int .i64 i)]
set_option maxHeartbeats 4000000 in
theorem ch_step (g:ChG G) {n:Nat} (ih:ChSp G n):ChSp G (n+1):=by
  intro h R ob most nl T t L v la iv tv ev evs un uvs a c ta tc hla htv hN ht hT hnl he hL hm hU O E U k
  subst hla
  subst htv
  obtain ⟨ea,ec,rfl⟩:=E.len
  have hob:=O.hob
  rw [chF_eq] at k
  refine WC_enter g.g345 rfl ?_
  have vu:vcells (.agg uvs.toArray)=some uvs:=by simp [vcells]
  simp -implicitDefEqProofs [c345,c345_body,c345_0,c345_1,ptrV,vu]
  by_cases h1:t=T
  · rw [if_pos h1] at k
    subst h1
    simp -implicitDefEqProofs [c345_2]
    refine src_all g.toSrcG 100 _ _ ob most nl L v _ iv _ _ _ evs [] a c rfl (by simp;omega) hnl (by omega) (by simp) (by intro y hy;simp at hy) hL hm (O.ext .lays) (E.xt (Sd.ext .lays)).view SlX.nil ?_
    intro h2 v2 n2 x2 O2
    simp -implicitDefEqProofs
    exact k h2 v2 (by simp at n2;omega) ((Sd.ext .lays).trans x2) O2
  · rw [if_neg h1] at k
    have t4:t < 4:=by omega
    have tu:t < un.length:=by rw [U.lenU];exact t4
    have tv:t < uvs.length:=by rw [U.len];exact t4
    have eu:unA un t=un[t]:=by unfold unA;rw [List.getElem?_eq_getElem tu];rfl
    have Ut:=U.row t tu tv
    rw [← eu] at Ut
    have ev':uvs[t]?=some uvs[t]:=List.getElem?_eq_getElem tv
    have lu:=U.len
    generalize eut:uvs[t]=ut at Ut ev'
    obtain ⟨da,dc,rfl⟩:=Ut.len
    simp -implicitDefEqProofs [h1,show ¬ (t:Int)=T by omega,c345_3]
    obtain ⟨h2,eh2⟩:∃ h2,h2=h.lays [.cells [.slice a nl c,iv,.slice ta T tc] false false,.cells uvs false false]:=⟨_,rfl⟩
    have x2:Ext h h2:=by rw [eh2];exact .lays
    have n2:h2.next=h.next+2:=by rw [eh2];simp
    have gp0:(Sd h2 ob v).get h.next=.cells [.slice a nl c,iv,.slice ta T tc] false false:=by rw [Sd.get (by omega) (fun e=>by have:=O.lt e;omega),eh2];simp
    have gu0:(Sd h2 ob v).get (h.next+1)=.cells uvs false false:=by rw [Sd.get (by omega) (fun e=>by have:=O.lt e;omega),eh2];simp
    rw [← eh2]
    refine W_loop (inv345 h2 ob most n nl T t evs un L v (.slice ea evs.length ec) h.next) (unA un t).length ⟨0,L,v,rfl,by omega,Nat.le_refl _,Xt.refl _,O.ext x2,hL,rfl,rfl⟩ ?_
    rintro mm F hh ⟨i,LL,vv,rfl,hi,nh,xt,OO,hLL,hS,rfl⟩
    have xth:Xt (Sd h ob v) (Sd hh ob vv):=(Sd.ext x2).trans xt
    have e2n:(Sd h2 ob v).next=h2.next:=rfl
    have gp:=(Sd.up (xt.get _ _ _ _ (by omega) gp0)).2.2
    have gu:=(Sd.up (xt.get _ _ _ _ (by omega) gu0)).2.2
    have ti:(t:Int) < 4:=by omega
    simp -implicitDefEqProofs [c345_8,c345_4,ptrV,gu,ti,ev']
    by_cases h3:i < (unA un t).length
    · have w1:IntKind.i64.wrap ((i:Int)+1)=((i+1:Nat):Int):=by rw [wrap64 (by have:=(hU t).2;omega)];rfl
      have w2:IntKind.i64.wrap ((t:Int)+1)=((t+1:Nat):Int):=by rw [wrap64 (by omega)];rfl
      obtain ⟨b,o,sp,c0,gg,ro,u,rfl,hb,hg,r0,su⟩:=((Ut.xt xth).xt Sd.xt).at h3
      have su':∃ s0,SlX 6 (Sd hh ob vv) (rowA (unA un t) i).length ((rowA (unA un t) i).flatMap Ev6.c) s0∧s0=u:=by
        obtain ⟨b',o',sp',c0',gg',ro',u',e',hb',hg',r0',su'⟩:=(Ut.xt xth).at h3
        simp only [Option.some.injEq,Addr.mk.injEq] at e'
        obtain ⟨rfl,rfl,rfl⟩:=e'
        have q:=(Sd.up hg').2.2
        rw [hg] at q
        simp only [ABlk.cells.injEq] at q
        obtain ⟨rfl,rfl,rfl⟩:=q
        rw [r0] at r0'
        have er:rowA (unA un t) i=(unA un t)[i]:=by unfold rowA;rw [List.getElem?_eq_getElem h3];rfl
        exact ⟨u',by rw [er];exact su',(Option.some.inj r0').symm⟩
      obtain ⟨_,su2,rfl⟩:=su'
      have l10:(rowA (unA un t) i).length≤11:=by
        have er:rowA (unA un t) i=(unA un t)[i]:=by unfold rowA;rw [List.getElem?_eq_getElem h3];rfl
        rw [er];exact (hU t).1 _ (List.getElem_mem h3)
      clear su
      obtain ⟨hA,ehA⟩:∃ hA,hA=hh.lays [.cells [] false false]:=⟨_,rfl⟩
      have xA:Ext hh hA:=by rw [ehA];exact .lays
      have nA:hA.next=hh.next+1:=by rw [ehA];simp
      obtain ⟨v1,h5,v2,h6,a1,a2,a3,a4,a5,a6,a7,a8⟩:=join2 (k:=6) (bytes:=48) (lo:=hh.next) (hA:=hA) (b:=hh.next) (by omega) (by rw [ehA];simp) (by omega) (by omega) (((E.xt xth).xt Sd.xt).ext xA) ((su2.xt Sd.xt).ext xA) (fun e=>by have:=su2.lt e;have e3:(Sd hh ob vv).next=hh.next:=rfl;omega) (by omega)
      have x6:Ext hh h6:=⟨by omega,fun y hy=>by rw [a7 y (by omega) (by omega),xA.get y hy]⟩
      have f5:∀ y,y < hh.next→h5.get y=hh.get y:=fun y hy=>by rw [a6 y (by omega) (by omega),xA.get y hy]
      have gp5:=(f5 h.next (by omega)).trans gp
      have gu5:=(f5 (h.next+1) (by omega)).trans gu
      have gp6:=(x6.get h.next (by omega)).trans gp
      have gu6:=(x6.get (h.next+1) (by omega)).trans gu
      have hg5:=(f5 b hb).trans hg
      have hg6:=(x6.get b hb).trans hg
      have lk:=fun (B:List ABlk)=>AH.lays_lt (h:=hh) (L:=B) (show h.next < hh.next by omega)
      have lk1:=fun (B:List ABlk)=>AH.lays_lt (h:=hh) (L:=B) (show h.next+1 < hh.next by omega)
      have lkb:=fun (B:List ABlk)=>AH.lays_lt (h:=hh) (L:=B) hb
      obtain ⟨pa,pc,rfl⟩:=a3.x.len
      rw [ehA] at a1
      have S':(List.range (i+1)).foldl (chSt n nl T t evs un most) (true,L)=chF n nl T (t+1) (evs++rowA (unA un t) i) un LL most:=by
        rw [List.range_succ,List.foldl_append,hS];rfl
      have stop:=fun h=>tries_stop (f:=chSt n nl T t evs un most) (s:=(true,L)) (i:=i+1) (n:=(unA un t).length) (fun s j e=>by unfold chSt;rw [e];rfl) (by omega) h
      rw [S'] at stop
      have lenOk:=fun h=>ch_len (n:=n) nl T (t+1) (evs++rowA (unA un t) i) un LL most hLL h
      have ih2:=fun R'=>ih h6 R' ob most nl T (t+1) LL vv (.slice a nl c) iv (.slice ta T tc) (.slice pa (evs.length+(rowA (unA un t) i).length) pc) (evs++rowA (unA un t) i) un uvs a c ta tc rfl rfl (by omega) (by omega) hT hnl (by simp;omega) hLL hm hU (OO.ext x6)
        (by
          refine SlX.sd (by simpa using a3.x) fun y hy=>?_
          rcases a8 y hy with q | q
          · exact ⟨by omega,fun e=>by have:=OO.lt e;omega⟩
          · exact ⟨by omega,fun e=>by have:=OO.lt e;omega⟩) (U.xt (xth.trans (Sd.ext x6)))
      generalize chF n nl T (t+1) (evs++rowA (unA un t) i) un LL most=P at *
      have au:uvs.toArray.toList=uvs:=by simp
      have tk:uvs.take 4=uvs:=List.take_of_length_le (by omega)
      simp -implicitDefEqProofs [c345_5,c345_5b,h3,gp,gu,lk,lk1,lkb,hg,ti,ev',r0,w2,a1,a2,gp5,gu5,gp6,gu6,hg5,hg6,lu,tk]
      refine ih2 _ fun h7 v7 n7 xt7 O7=>?_
      have xt':Xt (Sd h2 ob v) (Sd h7 ob v7):=xt.trans ((Sd.ext x6).trans xt7)
      have nn:=x6.next
      cases eP:P.1 with
      | true =>
        simp -implicitDefEqProofs [c345_7,w1]
        exact ⟨(unA un t).length - (i+1),by omega,i+1,P.2,v7,rfl,by omega,by omega,xt',O7,lenOk eP,by rw [S',← eP],by simp [ptrV]⟩
      | false =>
        have:=stop eP
        simp -implicitDefEqProofs [c345_6]
        rw [this] at k
        have kk:=k h7 v7 (by omega) ((Sd.ext x2).trans xt') O7
        rw [eP] at kk
        exact kk
    · have e:i=(unA un t).length:=by omega
      subst e
      rw [hS] at k
      simp -implicitDefEqProofs [c345_9]
      exact k hh vv (by omega) xth OO
theorem ch_all (g:ChG G) (n:Nat):ChSp G n:=by
  induction n with
  | zero=>intro _ _ _ _ _ _ _ _ _ _ _ _ _ _ _ _ _ _ _ _ _ _ h;omega
  | succ n ih=>exact ch_step g ih
end Go.Jq
