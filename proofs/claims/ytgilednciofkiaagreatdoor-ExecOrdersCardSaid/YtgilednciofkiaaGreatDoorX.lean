/- Executions compared: the program's order is the document's. -/
import Derived.Test.YtgilednciofkiaaGreatDoorK
import Derived.Test.YtgilednciofkiaaGreatDoorC
import Derived.Test.YtgilednciofkiaaGreatDoorC1
import Derived.Test.YtgilednciofkiaaGreatDoorK2
import Derived.Test.YtgilednciofkiaaGreatDoorT
import Derived.Test.YtgilednciofkiaaGreatDoorH2
set_option linter.unusedSimpArgs false
set_option linter.unusedVariables false
namespace Go.Jq
variable {G:Nat→SFunc} {h:AH} {R:Value→AH→Prop}
structure CmpQ (G:Nat→SFunc):Prop where
  g229:G 229=c229
  g230:G 230=c230
  g197:G 197=c197
  g198:G 198=c198
  g142:G 142=c142
  g145:G 145=c145
  g143:G 143=c143
  g144:G 144=c144
  g146:G 146=c146
  g79:G 79=c79
theorem nan_q (g:CmpQ G) {a:Int} (k:R (.bool false) h):WC G 229 [.int .i64 a] h R:=by
  refine WC_pure (WC_enter g.g229 rfl ?_)
  simp -implicitDefEqProofs [c229,c229_body,c229_0,c229_1,Ext.lays]
  exact ⟨.refl _,k⟩
theorem nan64_q (g:CmpQ G) {a:Int} (k:R (.bool false) h):WC G 230 [.int .i64 a] h R:=by
  refine WC_pure (WC_enter g.g230 rfl ?_)
  simp -implicitDefEqProofs [c230,c230_body,c230_0,c230_1,Ext.lays]
  exact ⟨.refl _,k⟩
theorem cmp_q (g:CmpQ G) {a b:Int} (k:R (.int .i64 (befM a b)) h):WC G 197 [.int .i64 a,.int .i64 b] h R:=by
  unfold befM at k
  refine WC_pure (WC_enter g.g197 rfl ?_)
  simp -implicitDefEqProofs [c197,c197_body,c197_0,c197_1]
  refine nan_q g ?_
  simp -implicitDefEqProofs [c197_2]
  refine nan_q g ?_
  simp -implicitDefEqProofs [c197_3,c197_7]
  generalize eQ:wO G c197_9 _ _ _=Q
  by_cases h1:a < b
  · subst eQ
    rw [if_pos h1] at k
    simp -implicitDefEqProofs [c197_9,h1,c197_10,Ext.lays]
    exact ⟨.refl _,k⟩
  · rw [if_neg h1] at k
    by_cases h2:b < a
    · subst eQ
      rw [if_pos h2] at k
      simp -implicitDefEqProofs [c197_9,h1,c197_11,h2,c197_12,Ext.lays]
      exact ⟨.refl _,k⟩
    · subst eQ
      rw [if_neg h2] at k
      simp -implicitDefEqProofs [c197_9,h1,c197_11,h2,c197_13,Ext.lays]
      exact ⟨.refl _,k⟩
theorem cmp64_q (g:CmpQ G) {a b:Int} (k:R (.int .i64 (befM a b)) h):WC G 198 [.int .i64 a,.int .i64 b] h R:=by
  unfold befM at k
  refine WC_pure (WC_enter g.g198 rfl ?_)
  simp -implicitDefEqProofs [c198,c198_body,c198_0,c198_1]
  refine nan64_q g ?_
  simp -implicitDefEqProofs [c198_2]
  refine nan64_q g ?_
  simp -implicitDefEqProofs [c198_3,c198_7]
  generalize eQ:wO G c198_9 _ _ _=Q
  by_cases h1:a < b
  · subst eQ
    rw [if_pos h1] at k
    simp -implicitDefEqProofs [c198_9,h1,c198_10,Ext.lays]
    exact ⟨.refl _,k⟩
  · rw [if_neg h1] at k
    by_cases h2:b < a
    · subst eQ
      rw [if_pos h2] at k
      simp -implicitDefEqProofs [c198_9,h1,c198_11,h2,c198_12,Ext.lays]
      exact ⟨.refl _,k⟩
    · subst eQ
      rw [if_neg h2] at k
      simp -implicitDefEqProofs [c198_9,h1,c198_11,h2,c198_13,Ext.lays]
      exact ⟨.refl _,k⟩
def inv142 (h:AH) (v:Value) (l:List Int) (mm:Nat) (F:Fr) (hh:AH):Prop :=
  ∃ j:Nat,mm=l.length - j∧j≤l.length∧fnz (l.drop j)=fnz l∧hh=h∧F=[(3,.int .i64 0),(6,v),(7,.int .i64 l.length),(8,.int .i64 j)]
theorem or_q (g:CmpQ G) {l:List Int} {v:Value} (s:SlV 1 h l.length (l.flatMap intC) v) (hl:l.length≤1000) (k:R (.int .i64 (fnz l)) h):WC G 142 [v] h R:=by
  obtain ⟨a,c,rfl⟩:=s.len
  refine WC_pure (WC_enter g.g142 rfl ?_)
  simp -implicitDefEqProofs [c142,c142_body,c142_0,c142_1,c142_2]
  refine W_loop (inv142 h (.slice a l.length c) l) l.length ⟨0,rfl,by omega,rfl,rfl,rfl⟩ ?_
  rintro mm F hh ⟨j,rfl,hj,hr,rfl,rfl⟩
  simp -implicitDefEqProofs [c142_8,c142_3]
  by_cases h1:j < l.length
  · obtain ⟨b,o,sp,c0,gg,ro,rfl,hb,hg,_,_,r1⟩:=s.rd intC_length h1
    have r1:=r1 0 Nat.one_pos
    simp only [intC,Nat.add_zero,List.getElem?_cons_zero,Nat.mul_one] at r1
    have w1:IntKind.i64.wrap ((j:Int)+1)=((j+1:Nat):Int):=by rw [wrap64 (by omega)];rfl
    rw [List.drop_eq_getElem_cons h1,fnz] at hr
    generalize l[j]=x at *
    simp -implicitDefEqProofs [h1,c142_4,hg,r1]
    generalize eQ:wO G c142_5 _ _ _=Q
    by_cases h2:x=0
    · subst eQ
      rw [if_neg (by simp [h2])] at hr
      simp -implicitDefEqProofs [c142_5,h2,c142_7,w1]
      exact ⟨l.length - (j+1),by omega,j+1,rfl,h1,hr,rfl,rfl⟩
    · subst eQ
      rw [if_pos h2] at hr
      subst hr
      simp -implicitDefEqProofs [c142_5,h2,c142_6,Ext.lays]
      exact ⟨.refl _,k⟩
  · have:j=l.length:=by omega
    subst this
    rw [List.drop_length] at hr
    simp -implicitDefEqProofs [h1,c142_9,Ext.lays]
    rw [← hr] at k
    exact ⟨.refl _,k⟩
theorem rows_nil {m:List Int}:rowsM [] m=if 0 < m.length then -1 else 0:=by cases m <;> simp [rowsM]
theorem rows_one {l:List Int} (h:0 < l.length):rowsM l []=1:=by
  cases l with
  | nil=>simp at h
  | cons a l=>rfl
def inv145 (h:AH) (u v:Value) (l m:List Int) (mm:Nat) (F:Fr) (hh:AH):Prop :=
  ∃ j:Nat,mm=l.length - j∧j≤l.length∧j≤m.length∧rowsM (l.drop j) (m.drop j)=rowsM l m∧hh=h∧F=[(0,u),(1,v),(9,u),(10,.int .i64 l.length),(11,.int .i64 j)]
theorem rows_q (g:CmpQ G) {l m:List Int} {u v:Value} (sl:SlV 1 h l.length (l.flatMap intC) u) (sm:SlV 1 h m.length (m.flatMap intC) v) (hl:l.length≤9223372036854775806) (k:R (.int .i64 (rowsM l m)) h):WC G 145 [u,v] h R:=by
  obtain ⟨ua,uc,rfl⟩:=sl.len
  obtain ⟨va,vc,rfl⟩:=sm.len
  refine WC_pure (WC_enter g.g145 rfl ?_)
  simp -implicitDefEqProofs [c145,c145_body,c145_0,c145_1]
  refine W_loop (inv145 h (.slice ua l.length uc) (.slice va m.length vc) l m) l.length ⟨0,rfl,by omega,by omega,rfl,rfl,rfl⟩ ?_
  rintro mm F hh ⟨j,rfl,hj,hj',hr,rfl,rfl⟩
  simp -implicitDefEqProofs [c145_11,c145_2]
  by_cases h1:j < l.length
  · obtain ⟨b,o,sp,c0,gg,ro,rfl,hb,hg,_,_,r1⟩:=sl.rd intC_length h1
    have r1:=r1 0 Nat.one_pos
    simp only [intC,Nat.add_zero,List.getElem?_cons_zero,Nat.mul_one] at r1
    simp -implicitDefEqProofs [h1,c145_3,hg,r1]
    generalize eQ:wO G c145_4 _ _ _=Q
    by_cases h2:j < m.length
    · obtain ⟨b',o',sp',c0',gg',ro',rfl,hb',hg',_,_,r2⟩:=sm.rd intC_length h2
      have r2:=r2 0 Nat.one_pos
      simp only [intC,Nat.add_zero,List.getElem?_cons_zero,Nat.mul_one] at r2
      have w1:IntKind.i64.wrap ((j:Int)+1)=((j+1:Nat):Int):=by rw [wrap64 (by omega)];rfl
      have h2':¬ (m.length:Int)≤j:=by omega
      have h2n:¬ m.length≤j:=by omega
      rw [drop_two h1,drop_two h2,rowsM] at hr
      generalize l[j]=x at *
      generalize m[j]=y at *
      subst eQ
      simp -implicitDefEqProofs [c145_4,h2,h2',h2n,c145_6,hg',r2,c145_7]
      refine cmp_q g ?_
      simp -implicitDefEqProofs [c145_8]
      by_cases h3:befM x y=0
      · rw [if_neg (by simp [h3])] at hr
        simp -implicitDefEqProofs [h3,c145_10,w1]
        exact ⟨l.length - (j+1),by omega,j+1,rfl,h1,h2,hr,rfl,rfl⟩
      · rw [if_pos h3] at hr
        rw [← hr] at k
        simp -implicitDefEqProofs [h3,c145_9]
        exact ⟨.refl _,k⟩
    · have h2':(m.length:Int)≤j:=by omega
      have h2n:m.length≤j:=by omega
      rw [List.drop_of_length_le h2n,rows_one (by simp;omega)] at hr
      subst eQ
      simp -implicitDefEqProofs [c145_4,h2,h2',h2n,c145_5]
      rw [← hr] at k
      exact ⟨.refl _,k⟩
  · have:j=l.length:=by omega
    subst this
    rw [List.drop_length,rows_nil] at hr
    simp -implicitDefEqProofs [h1]
    generalize eQ:wO G c145_12 _ _ _=Q
    by_cases h2:l.length < m.length
    · subst eQ
      rw [if_pos (by simp;omega)] at hr
      simp -implicitDefEqProofs [c145_12,h2,show (l.length:Int) < m.length by omega,c145_13]
      rw [← hr] at k
      exact ⟨.refl _,k⟩
    · subst eQ
      rw [if_neg (by simp;omega)] at hr
      simp -implicitDefEqProofs [c145_12,h2,show ¬ (l.length:Int) < m.length by omega,c145_14]
      rw [← hr] at k
      exact ⟨.refl _,k⟩
theorem fmI_len' {l:List Int}:(l.flatMap intC).length=l.length:=by
  induction l with
  | nil=>rfl
  | cons a l ih=>rw [List.flatMap_cons,List.length_append,ih];simp [intC];omega
theorem slv_ints {L:List ABlk} {l:List Int} (o:Nat) (h1:L[o]?=some (.cells (l.flatMap intC) false false)):SlV 1 (h.lays L) l.length (l.flatMap intC) (.slice (some ⟨h.next+o,0,none⟩) l.length l.length):=by
  have hl:(l.flatMap intC).length=l.length:=fmI_len'
  have ho:o < L.length:=(List.getElem?_eq_some_iff.1 h1).1
  refine ⟨by omega,.inr ⟨_,_,_,_,l.flatMap intC,false,false,rfl,by simp;omega,?_,by omega,?_⟩⟩
  · rw [AH.lays_get,h1];rfl
  · rw [List.drop_zero,List.take_of_length_le (by omega)]
set_option maxHeartbeats 4000000 in
theorem ev_q (g:CmpQ G) {x y:Ev6} (k:R (.int .i64 (evM x y)) h):WC G 144 [x.v,y.v] h R:=by
  refine WC_pure (WC_enter g.g144 rfl ?_)
  simp -implicitDefEqProofs [c144,c144_body,c144_0,Ev6.v,c144_1,c144_1b]
  refine cmp_q g ?_
  simp -implicitDefEqProofs
  refine cmp_q g ?_
  simp -implicitDefEqProofs
  refine cmp_q g ?_
  simp -implicitDefEqProofs
  refine cmp_q g ?_
  simp -implicitDefEqProofs
  refine cmp64_q g ?_
  simp -implicitDefEqProofs
  refine cmp64_q g ?_
  have z6:zi 6=[.int .i64 0,.int .i64 0,.int .i64 0,.int .i64 0,.int .i64 0,.int .i64 0]:=rfl
  simp -implicitDefEqProofs [z6,splice]
  refine or_q g (l:=[befM x.t y.t,befM x.i y.i,befM x.kind y.kind,befM x.loc y.loc,befM x.r y.r,befM x.w y.w]) (slv_ints 2 (by simp [intC])) (by simp) ?_
  simp -implicitDefEqProofs [Ext.lays]
  exact k
theorem evs_nil {m:List Ev6}:evsM [] m=if 0 < m.length then -1 else 0:=by cases m <;> simp [evsM]
theorem evs_one {l:List Ev6} (h:0 < l.length):evsM l []=1:=by
  cases l with
  | nil=>simp at h
  | cons a l=>rfl
def inv143 (h:AH) (u v:Value) (l m:List Ev6) (mm:Nat) (F:Fr) (hh:AH):Prop :=
  ∃ j:Nat,mm=l.length - j∧j≤l.length∧j≤m.length∧evsM (l.drop j) (m.drop j)=evsM l m∧hh=h.lays []∧F=[(0,u),(1,v),(2,.func (.func 144) #[] #[]),(11,u),(12,.int .i64 l.length),(13,.int .i64 j)]
set_option maxHeartbeats 4000000 in
theorem evs_q (g:CmpQ G) {l m:List Ev6} {u v:Value} (sl:SlV 6 h l.length (l.flatMap Ev6.c) u) (sm:SlV 6 h m.length (m.flatMap Ev6.c) v) (hl:l.length≤9223372036854775806) (k:R (.int .i64 (evsM l m)) h):WC G 143 [u,v,.func (.func 144) #[] #[]] h R:=by
  obtain ⟨ua,uc,rfl⟩:=sl.len
  obtain ⟨va,vc,rfl⟩:=sm.len
  refine WC_pure (WC_enter g.g143 rfl ?_)
  simp -implicitDefEqProofs [c143,c143_body,c143_0,c143_1]
  refine W_loopg (inv143 h (.slice ua l.length uc) (.slice va m.length vc) l m) l.length ⟨0,rfl,by omega,by omega,rfl,by simp,rfl⟩ ?_
  rintro mm F hh ⟨j,rfl,hj,hj',hr,rfl,rfl⟩
  simp only [AH.lays_nil]
  simp -implicitDefEqProofs [c143_11,c143_2]
  have z6:zi 6=[.int .i64 0,.int .i64 0,.int .i64 0,.int .i64 0,.int .i64 0,.int .i64 0]:=rfl
  by_cases h1:j < l.length
  · obtain ⟨b,o,sp,c0,gg,ro,rfl,hb,hg,hle,hrow,_⟩:=sl.rd Ev6.c_length h1
    simp -implicitDefEqProofs [h1,c143_3,hg,hle,hrow,Ev6.c,z6,splice]
    generalize eQ:wO G c143_4 _ _ _=Q
    by_cases h2:j < m.length
    · obtain ⟨b',o',sp',c0',gg',ro',rfl,hb',hg',hle',hrow',_⟩:=sm.rd Ev6.c_length h2
      have w1:IntKind.i64.wrap ((j:Int)+1)=((j+1:Nat):Int):=by rw [wrap64 (by omega)];rfl
      have h2':¬ (m.length:Int)≤j:=by omega
      have h2n:¬ m.length≤j:=by omega
      rw [drop_two h1,drop_two h2,evsM] at hr
      generalize l[j]=x at *
      generalize m[j]=y at *
      subst eQ
      simp -implicitDefEqProofs [c143_4,h2,h2',h2n,c143_6,AH.lays_lt hb',hg',hle',hrow',Ev6.c,z6,splice,c143_7]
      refine ev_q g ?_
      simp -implicitDefEqProofs [c143_8]
      by_cases h3:evM x y=0
      · rw [if_neg (by simp [h3])] at hr
        simp -implicitDefEqProofs [h3,c143_10,w1]
        refine gcK_lays0 ⟨by simp [hb,hb'],?_⟩
        exact ⟨l.length - (j+1),by omega,j+1,rfl,h1,h2,hr,by simp,by simp⟩
      · rw [if_pos h3] at hr
        rw [← hr] at k
        simp -implicitDefEqProofs [h3,c143_9,Ext.lays]
        exact k
    · have h2':(m.length:Int)≤j:=by omega
      have h2n:m.length≤j:=by omega
      rw [List.drop_of_length_le h2n,evs_one (by simp;omega)] at hr
      subst eQ
      simp -implicitDefEqProofs [c143_4,h2,h2',h2n,c143_5,Ext.lays]
      rw [← hr] at k
      exact k
  · have:j=l.length:=by omega
    subst this
    rw [List.drop_length,evs_nil] at hr
    simp -implicitDefEqProofs [h1]
    generalize eQ:wO G c143_12 _ _ _=Q
    by_cases h2:l.length < m.length
    · subst eQ
      rw [if_pos (by simp;omega)] at hr
      simp -implicitDefEqProofs [c143_12,h2,show (l.length:Int) < m.length by omega,c143_13]
      rw [← hr] at k
      exact ⟨.refl _,k⟩
    · subst eQ
      rw [if_neg (by simp;omega)] at hr
      simp -implicitDefEqProofs [c143_12,h2,show ¬ (l.length:Int) < m.length by omega,c143_14]
      rw [← hr] at k
      exact ⟨.refl _,k⟩
theorem co_nil {m:List (List Int)}:coM [] m=if 0 < m.length then -1 else 0:=by cases m <;> simp [coM]
theorem co_one {l:List (List Int)} (h:0 < l.length):coM l []=1:=by
  cases l with
  | nil=>simp at h
  | cons a l=>rfl
def inv146 (h:AH) (u v:Value) (l m:List (List Int)) (mm:Nat) (F:Fr) (hh:AH):Prop :=
  ∃ j:Nat,mm=l.length - j∧j≤l.length∧j≤m.length∧coM (l.drop j) (m.drop j)=coM l m∧hh=h∧F=[(0,u),(1,v),(2,.func (.func 145) #[] #[]),(11,u),(12,.int .i64 l.length),(13,.int .i64 j)]
set_option maxHeartbeats 4000000 in
theorem co_q (g:CmpQ G) {l m:List (List Int)} {u v:Value} (sl:NestX intC 1 h l u) (sm:NestX intC 1 h m v) (hl:l.length≤9223372036854775806) (hr:∀ r ∈ l,r.length≤9223372036854775806) (k:R (.int .i64 (coM l m)) h):WC G 146 [u,v,.func (.func 145) #[] #[]] h R:=by
  obtain ⟨ua,uc,rfl⟩:=sl.len
  obtain ⟨va,vc,rfl⟩:=sm.len
  refine WC_pure (WC_enter g.g146 rfl ?_)
  simp -implicitDefEqProofs [c146,c146_body,c146_0,c146_1]
  refine W_loop (inv146 h (.slice ua l.length uc) (.slice va m.length vc) l m) l.length ⟨0,rfl,by omega,by omega,rfl,rfl,rfl⟩ ?_
  rintro mm F hh ⟨j,rfl,hj,hj',hc,rfl,rfl⟩
  simp -implicitDefEqProofs [c146_11,c146_2]
  by_cases h1:j < l.length
  · obtain ⟨b,o,sp,c0,gg,ro,x,rfl,hb,hg,r1,sx⟩:=sl.at h1
    have hx:=hr _ (List.getElem_mem h1)
    simp -implicitDefEqProofs [h1,c146_3,hg,r1]
    obtain ⟨xa,xc,rfl⟩:=sx.view.len
    generalize eQ:wO G c146_4 _ _ _=Q
    by_cases h2:j < m.length
    · obtain ⟨b',o',sp',c0',gg',ro',y,rfl,hb',hg',r2,sy⟩:=sm.at h2
      have w1:IntKind.i64.wrap ((j:Int)+1)=((j+1:Nat):Int):=by rw [wrap64 (by omega)];rfl
      have h2':¬ (m.length:Int)≤j:=by omega
      have h2n:¬ m.length≤j:=by omega
      obtain ⟨ya,yc,rfl⟩:=sy.view.len
      rw [drop_two h1,drop_two h2,coM] at hc
      generalize l[j]=p at *
      generalize m[j]=q at *
      subst eQ
      simp -implicitDefEqProofs [c146_4,h2,h2',h2n,c146_6,hg',r2,c146_7]
      refine rows_q g sx.view sy.view hx ?_
      simp -implicitDefEqProofs [c146_8]
      by_cases h3:rowsM p q=0
      · rw [if_neg (by simp [h3])] at hc
        simp -implicitDefEqProofs [h3,c146_10,w1]
        exact ⟨l.length - (j+1),by omega,j+1,rfl,h1,h2,hc,rfl,rfl⟩
      · rw [if_pos h3] at hc
        rw [← hc] at k
        simp -implicitDefEqProofs [h3,c146_9]
        exact ⟨.refl _,k⟩
    · have h2':(m.length:Int)≤j:=by omega
      have h2n:m.length≤j:=by omega
      rw [List.drop_of_length_le h2n,co_one (by simp;omega)] at hc
      subst eQ
      simp -implicitDefEqProofs [c146_4,h2,h2',h2n,c146_5]
      rw [← hc] at k
      exact ⟨.refl _,k⟩
  · have:j=l.length:=by omega
    subst this
    rw [List.drop_length,co_nil] at hc
    simp -implicitDefEqProofs [h1]
    generalize eQ:wO G c146_12 _ _ _=Q
    by_cases h2:l.length < m.length
    · subst eQ
      rw [if_pos (by simp;omega)] at hc
      simp -implicitDefEqProofs [c146_12,h2,show (l.length:Int) < m.length by omega,c146_13]
      rw [← hc] at k
      exact ⟨.refl _,k⟩
    · subst eQ
      rw [if_neg (by simp;omega)] at hc
      simp -implicitDefEqProofs [c146_12,h2,show ¬ (l.length:Int) < m.length by omega,c146_14]
      rw [← hc] at k
      exact ⟨.refl _,k⟩
theorem cmpM_fnz {x y:Exe}:cmpM x y=fnz [evsM x.evs y.evs,rowsM x.rf y.rf,coM x.co y.co]:=by
  unfold cmpM
  simp only [fnz]
  split
  · rfl
  · split
    · rfl
    · split
      · rfl
      · omega
set_option maxHeartbeats 4000000 in
theorem compare_q (g:CmpQ G) {x y:Exe} {ev rv cv ev' rv' cv':Value} (X:ExeV h x ev rv cv) (Y:ExeV h y ev' rv' cv') (he:x.evs.length≤9223372036854775806) (hf:x.rf.length≤9223372036854775806) (hc:x.co.length≤9223372036854775806) (hr:∀ r ∈ x.co,r.length≤9223372036854775806)
    (k:R (.int .i64 (cmpM x y)) h):WC G 79 [.agg #[ev,rv,cv],.agg #[ev',rv',cv']] h R:=by
  obtain ⟨a1,a2,rfl⟩:=X.evs.len
  obtain ⟨a3,a4,rfl⟩:=X.rf.len
  obtain ⟨a5,a6,rfl⟩:=X.co.len
  obtain ⟨b1,b2,rfl⟩:=Y.evs.len
  obtain ⟨b3,b4,rfl⟩:=Y.rf.len
  obtain ⟨b5,b6,rfl⟩:=Y.co.len
  refine WC_pure (WC_enter g.g79 rfl ?_)
  simp -implicitDefEqProofs [c79,c79_body,c79_0,c79_1,c79_1b]
  refine evs_q g (X.evs.ext .lays) (Y.evs.ext .lays) he ?_
  simp -implicitDefEqProofs
  refine rows_q g (X.rf.ext .lays) (Y.rf.ext .lays) hf ?_
  simp -implicitDefEqProofs
  refine co_q g (X.co.ext .lays) (Y.co.ext .lays) hc hr ?_
  simp -implicitDefEqProofs [splice]
  refine or_q g (l:=[evsM x.evs y.evs,rowsM x.rf y.rf,coM x.co y.co]) (slv_ints 2 (by simp [intC])) (by simp) ?_
  rw [← cmpM_fnz]
  simp -implicitDefEqProofs [Ext.lays]
  exact k
structure LessQ (G:Nat→SFunc):Prop extends CmpQ G where
  g339:G 339=c339
  g279:G 279=c279
theorem Less_q (g:LessQ G) {x y:Exe} {ev rv cv ev' rv' cv':Value} (X:ExeV h x ev rv cv) (Y:ExeV h y ev' rv' cv') (he:x.evs.length≤9223372036854775806) (hf:x.rf.length≤9223372036854775806) (hc:x.co.length≤9223372036854775806) (hr:∀ r ∈ x.co,r.length≤9223372036854775806)
    (k:R (.bool (decide (cmpM x y < 0))) h):WC G 339 [.agg #[ev,rv,cv],.agg #[ev',rv',cv']] h R:=by
  refine WC_pure (WC_enter g.g339 rfl ?_)
  simp -implicitDefEqProofs [c339,c339_body,c339_0,c339_1]
  refine compare_q g.toCmpQ (X.ext .lays) (Y.ext .lays) he hf hc hr ?_
  simp -implicitDefEqProofs [Ext.lays]
  exact k
theorem Same_q (g:LessQ G) {x y:Exe} {ev rv cv ev' rv' cv':Value} (X:ExeV h x ev rv cv) (Y:ExeV h y ev' rv' cv') (he:x.evs.length≤9223372036854775806) (hf:x.rf.length≤9223372036854775806) (hc:x.co.length≤9223372036854775806) (hr:∀ r ∈ x.co,r.length≤9223372036854775806)
    (k:R (.bool (decide (cmpM x y=0))) h):WC G 279 [.agg #[ev,rv,cv],.agg #[ev',rv',cv']] h R:=by
  refine WC_pure (WC_enter g.g279 rfl ?_)
  simp -implicitDefEqProofs [c279,c279_body,c279_0,c279_1]
  refine compare_q g.toCmpQ (X.ext .lays) (Y.ext .lays) he hf hc hr ?_
  simp -implicitDefEqProofs [Ext.lays]
  exact k
end Go.Jq
namespace Go.Jq
structure Ord3 {α:Type} (f:α→α→Int):Prop where
  anti:∀ a b,f b a=- f a b
  eq:∀ a b,f a b=0→a=b
  tr:∀ a b c,f a b < 0→f b c < 0→f a c < 0
theorem Ord3.refl {α:Type} {f:α→α→Int} (o:Ord3 f) (a:α):f a a=0:=by have:=o.anti a a;omega
theorem ord_bef:Ord3 befM:=by
  refine ⟨fun a b=>?_,fun a b=>?_,fun a b c=>?_⟩ <;> unfold befM <;> (repeat' split) <;> omega
def lstM {α:Type} (f:α→α→Int):List α→List α→Int
  | [],[]=>0
  | [],_::_=>-1
  | _::_,[]=>1
  | a::l,b::m=>if f a b ≠ 0 then f a b else lstM f l m
theorem ord_lst {α:Type} {f:α→α→Int} (o:Ord3 f):Ord3 (lstM f):=by
  refine ⟨fun a=>?_,fun a=>?_,fun a=>?_⟩
  · induction a with
    | nil=>intro b;cases b <;> simp [lstM]
    | cons x l ih =>
      intro b
      cases b with
      | nil=>simp [lstM]
      | cons y m =>
        have h1:=o.anti x y
        have h2:=ih m
        simp only [lstM]
        split <;> split <;> omega
  · induction a with
    | nil=>intro b;cases b <;> simp [lstM]
    | cons x l ih =>
      intro b
      cases b with
      | nil=>simp [lstM]
      | cons y m =>
        simp only [lstM]
        intro h
        split at h
        · omega
        · rename_i h0
          rw [o.eq x y (by omega),ih m h]
  · induction a with
    | nil =>
      intro b c
      cases b <;> cases c <;> simp [lstM]
    | cons x l ih =>
      intro b c
      cases b with
      | nil=>simp [lstM]
      | cons y m =>
        cases c with
        | nil=>simp [lstM]
        | cons z n =>
          simp only [lstM]
          intro h1 h2
          by_cases e1:f x y=0
          · obtain rfl:=o.eq x y e1
            rw [if_neg (by omega)] at h1
            by_cases e2:f x z=0
            · rw [if_neg (by omega)] at h2 ⊢
              exact ih m n h1 h2
            · rw [if_pos e2] at h2 ⊢
              exact h2
          · rw [if_pos e1] at h1
            by_cases e2:f y z=0
            · obtain rfl:=o.eq y z e2
              rw [if_pos e1];exact h1
            · rw [if_pos e2] at h2
              have:=o.tr x y z h1 h2
              rw [if_pos (by omega)];exact this
theorem rowsM_lst:rowsM=lstM befM:=by
  funext l m
  induction l generalizing m with
  | nil=>cases m <;> rfl
  | cons a l ih =>
    cases m with
    | nil=>rfl
    | cons b m=>simp only [rowsM,lstM,ih]
def Ev6.key (e:Ev6):List Int:=[e.t,e.i,e.kind,e.loc,e.r,e.w]
theorem evM_key {a b:Ev6}:evM a b=lstM befM a.key b.key:=by
  simp only [evM,fnz,Ev6.key,lstM]
theorem ord_ev:Ord3 evM:=by
  have o:=ord_lst ord_bef
  refine ⟨fun a b=>?_,fun a b h=>?_,fun a b c=>?_⟩
  · rw [evM_key,evM_key];exact o.anti _ _
  · rw [evM_key] at h
    have:=o.eq _ _ h
    simp only [Ev6.key,List.cons.injEq,and_true] at this
    obtain ⟨h1,h2,h3,h4,h5,h6⟩:=this
    cases a;cases b
    simp only at h1 h2 h3 h4 h5 h6
    subst h1 h2 h3 h4 h5 h6
    rfl
  · rw [evM_key,evM_key,evM_key];exact o.tr _ _ _
theorem evsM_lst:evsM=lstM evM:=by
  funext l m
  induction l generalizing m with
  | nil=>cases m <;> rfl
  | cons a l ih =>
    cases m with
    | nil=>rfl
    | cons b m=>simp only [evsM,lstM,ih]
theorem coM_lst:coM=lstM rowsM:=by
  funext l m
  induction l generalizing m with
  | nil=>cases m <;> rfl
  | cons a l ih =>
    cases m with
    | nil=>rfl
    | cons b m=>simp only [coM,lstM,ih]
theorem ord_cmp:Ord3 cmpM:=by
  have o1:Ord3 evsM:=by rw [evsM_lst];exact ord_lst ord_ev
  have o2:Ord3 rowsM:=by rw [rowsM_lst];exact ord_lst ord_bef
  have o3:Ord3 coM:=by rw [coM_lst];exact ord_lst o2
  refine ⟨fun a b=>?_,fun a b h=>?_,fun a b c=>?_⟩
  · have h1:=o1.anti a.evs b.evs
    have h2:=o2.anti a.rf b.rf
    have h3:=o3.anti a.co b.co
    unfold cmpM
    (repeat' split) <;> omega
  · unfold cmpM at h
    split at h
    · omega
    · split at h
      · omega
      · have h1:=o1.eq _ _ (by omega:evsM a.evs b.evs=0)
        have h2:=o2.eq _ _ (by omega:rowsM a.rf b.rf=0)
        have h3:=o3.eq _ _ h
        cases a;cases b
        simp only at h1 h2 h3
        subst h1 h2 h3
        rfl
  · intro h1 h2
    unfold cmpM at h1 h2 ⊢
    by_cases e1:evsM a.evs b.evs=0
    · have q:=o1.eq _ _ e1
      rw [if_neg (by omega)] at h1
      rw [← q] at h2
      by_cases e2:evsM a.evs c.evs=0
      · rw [if_neg (by omega)] at h2 ⊢
        by_cases e3:rowsM a.rf b.rf=0
        · have q:=o2.eq _ _ e3
          rw [if_neg (by omega)] at h1
          rw [← q] at h2
          by_cases e4:rowsM a.rf c.rf=0
          · rw [if_neg (by omega)] at h2 ⊢
            exact o3.tr _ _ _ h1 h2
          · rw [if_pos e4] at h2 ⊢;exact h2
        · rw [if_pos e3] at h1
          by_cases e4:rowsM b.rf c.rf=0
          · have q:=o2.eq _ _ e4
            rw [← q,if_pos e3];exact h1
          · rw [if_pos e4] at h2
            have:=o2.tr _ _ _ h1 h2
            rw [if_pos (by omega)];exact this
      · rw [if_pos e2] at h2 ⊢;exact h2
    · rw [if_pos e1] at h1
      by_cases e2:evsM b.evs c.evs=0
      · have q:=o1.eq _ _ e2
        rw [← q,if_pos e1];exact h1
      · rw [if_pos e2] at h2
        have:=o1.tr _ _ _ h1 h2
        rw [if_pos (by omega)];exact this
end Go.Jq
namespace Go.Jq
theorem insM_ne {L:List Exe} {x:Exe}:insM L x ≠ []:=by
  unfold insM
  split
  · rename_i e
    intro h
    rw [h] at e
    simp at e
  · simp
theorem fold_mono {α:Type} {f:Bool×List Exe→α→Bool×List Exe} (hf:∀ s a,s.2 ≠ []→(f s a).2 ≠ []):∀ {l:List α} {s:Bool×List Exe},s.2 ≠ []→(l.foldl f s).2 ≠ []
  | [],_,h=>h
  | a::l,s,h=>fold_mono hf (l:=l) (hf s a h)
theorem fold_true {α:Type} {f:Bool×List Exe→α→Bool×List Exe} (hf:∀ s a,s.1=false→(f s a).1=false):∀ {l:List α} {s:Bool×List Exe},(l.foldl f s).1=true→s.1=true
  | [],_,h=>h
  | a :: l, s, h => by
    have:=fold_true hf (l:=l) (s:=f s a) h
    cases e:s.1 with
    | true=>rfl
    | false=>rw [hf s a e] at this;exact this
theorem fold_ne {α:Type} {f:Bool×List Exe→α→Bool×List Exe} (h0:∀ s a,s.1=false→(f s a).1=false) (hm:∀ s a,s.2 ≠ []→(f s a).2 ≠ []) {k:α} (hk:∀ s:Bool×List Exe,s.1=true→(f s k).1=true→(f s k).2 ≠ []) :
    ∀ {l:List α} {s:Bool×List Exe},k ∈ l→(l.foldl f s).1=true→(l.foldl f s).2 ≠ []
  | a :: l, s, hmem, h => by
    rcases List.mem_cons.1 hmem with rfl | hmem
    · have h1:=fold_true h0 (l:=l) (s:=f s k) h
      have h2:s.1=true:=by
        cases e:s.1 with
        | true=>rfl
        | false=>rw [h0 s k e] at h1;exact h1
      exact fold_mono hm (l:=l) (s:=f s k) (hk s h2 h1)
    · exact fold_ne h0 hm hk (l:=l) hmem h
theorem ord_mono:∀ n:Nat,(∀ nl x out most,out ≠ []→(ordF n nl x out most).2 ≠ [])∧(∀ nl x row left out most,out ≠ []→(perF n nl x row left out most).2 ≠ []):=by
  intro n
  induction n with
  | zero=>exact ⟨fun _ _ _ _ h=>by rw [ordF];exact h,fun _ _ _ _ _ _ h=>by rw [perF];exact h⟩
  | succ n ih =>
    refine ⟨fun nl x out most h=>?_,fun nl x row left out most h=>?_⟩
    · rw [ordF]
      split
      · exact insM_ne
      · exact ih.2 _ _ _ _ _ _ h
    · rw [perF]
      split
      · exact ih.1 _ _ _ _ h
      · refine fold_mono (fun s a hs=>?_) h
        split
        · exact ih.2 _ _ _ _ _ _ hs
        · exact hs
theorem ord_ne:∀ n:Nat,(∀ nl x out most,(ordF n nl x out most).1=true→(ordF n nl x out most).2 ≠ [])∧(∀ nl x row left out most,(perF n nl x row left out most).1=true→(perF n nl x row left out most).2 ≠ []):=by
  intro n
  induction n with
  | zero=>exact ⟨fun _ _ _ _ h=>by simp [ordF] at h,fun _ _ _ _ _ _ h=>by simp [perF] at h⟩
  | succ n ih =>
    refine ⟨fun nl x out most h=>?_,fun nl x row left out most h=>?_⟩
    · rw [ordF] at h ⊢
      split
      · exact insM_ne
      · rename_i e;rw [if_neg e] at h;exact ih.2 _ _ _ _ _ _ h
    · rw [perF] at h ⊢
      split
      · rename_i e;rw [if_pos e] at h;exact ih.1 _ _ _ _ h
      · rename_i e
        rw [if_neg e] at h
        refine fold_ne (k:=0) (fun s a hs=>by rw [hs];exact hs) (fun s a hs=>?_) (fun s hs hk=>?_) (List.mem_range.2 (by omega)) h
        · split
          · exact (ord_mono n).2 _ _ _ _ _ _ hs
          · exact hs
        · rw [if_pos hs] at hk ⊢
          exact ih.2 _ _ _ _ _ _ hk
theorem src_mono {n:Nat}:∀ nl evs rf out most,out ≠ []→(srcF n nl evs rf out most).2 ≠ []:=by
  induction n with
  | zero=>intro _ _ _ _ _ h;rw [srcF];exact h
  | succ n ih =>
    intro nl evs rf out most h
    rw [srcF_eq]
    split
    · split
      · exact (ord_mono 5000).1 _ _ _ _ h
      · exact h
    · split
      · refine fold_mono (fun s a hs=>?_) h
        unfold srcSt
        split
        · exact ih _ _ _ _ _ hs
        · exact hs
      · exact ih _ _ _ _ _ h
structure TgtE (p:Prg) (evs:List Ev6):Prop where
  le:p.locs.length≤evs.length
  ini:∀ k,k < p.locs.length→evA evs k=iniE p k
  rd:∀ b,b < evs.length→(evA evs b).reads=true→p.locs.length≤b∧0≤(evA evs b).loc∧(evA evs b).loc < p.locs.length∧(evA evs b).r=intA p.init (evA evs b).loc.toNat
  ord:∀ a b,a < evs.length→b < evs.length→poP evs a b=true→a < b
def rfT (evs:List Ev6) (i:Nat):Int:=if (evA evs i).reads then (evA evs i).loc else -1
theorem clo_fwd {n:Nat} {r:Nat→Nat} (h:Fwd r):acyM n r=true:=by
  unfold acyM
  rw [List.all_eq_true]
  intro i _
  cases e:(clo n r i).testBit i with
  | false=>rfl
  | true=>have:=h.clo (n:=n) i i e;omega
theorem tgt_acy {p:Prg} {evs:List Ev6} (T:TgtE p evs):acyM evs.length (relOf evs.length (srcR evs ((List.range evs.length).map (rfT evs)) evs.length))=true:=by
  refine clo_fwd fun a b h=>?_
  rw [relOf_bit] at h
  simp only [Bool.and_eq_true,decide_eq_true_eq] at h
  obtain ⟨ha,hb,h⟩:=h
  unfold srcR at h
  simp only [Bool.or_eq_true,Bool.and_eq_true,decide_eq_true_eq] at h
  rcases h with h | ⟨_,h⟩
  · exact T.ord a b ha hb h
  · have:intA ((List.range evs.length).map (rfT evs)) b=rfT evs b:=by simp [intA,hb]
    rw [this] at h
    unfold rfT at h
    split at h
    · rename_i e
      have:=T.rd b hb e
      omega
    · omega
theorem src_ne {p:Prg} {evs:List Ev6} {most:Nat} (T:TgtE p evs):∀ (n j:Nat) (out:List Exe),j≤evs.length→(srcF n p.locs.length evs ((List.range j).map (rfT evs)) out most).1=true→(srcF n p.locs.length evs ((List.range j).map (rfT evs)) out most).2 ≠ []:=by
  intro n
  induction n with
  | zero=>intro j out _ h;simp [srcF] at h
  | succ n ih =>
    intro j out hj h
    have hr:(List.range (j+1)).map (rfT evs)=(List.range j).map (rfT evs)++[rfT evs j]:=by rw [List.range_succ,List.map_append];rfl
    have hl:((List.range j).map (rfT evs)).length=j:=by simp
    rw [srcF_eq] at h ⊢
    rw [hl] at h ⊢
    split
    · rename_i e
      subst e
      rw [if_pos rfl,tgt_acy T,if_pos rfl] at h
      rw [tgt_acy T,if_pos rfl]
      exact (ord_ne 5000).1 _ _ _ _ h
    · rename_i e
      rw [if_neg e] at h
      have hj':j < evs.length:=by omega
      split
      · rename_i e2
        rw [if_pos e2] at h
        have rd:=T.rd j hj' e2
        have hk:(((evA evs j).loc.toNat:Nat):Int)=(evA evs j).loc:=by omega
        have hT:rfT evs j=(evA evs j).loc:=by unfold rfT;rw [if_pos e2]
        refine fold_ne (k:=(evA evs j).loc.toNat) (fun s a hs=>?_) (fun s a hs=>?_) (fun s hs hk2=>?_) (List.mem_range.2 (by have:=T.le;omega)) h
        · unfold srcSt;rw [hs];exact hs
        · unfold srcSt
          split
          · exact src_mono _ _ _ _ _ hs
          · exact hs
        · have so:srcOk evs j (evA evs j).loc.toNat=true:=by
            unfold srcOk
            have hi:=T.ini (evA evs j).loc.toNat (by omega)
            rw [hi]
            simp only [Bool.and_eq_true,decide_eq_true_eq]
            exact ⟨by omega,by simp [Ev6.writes,iniE],hk,rd.2.2.2.symm⟩
          have es:srcSt n p.locs.length evs ((List.range j).map (rfT evs)) most s (evA evs j).loc.toNat=srcF n p.locs.length evs ((List.range (j+1)).map (rfT evs)) s.2 most:=by
            unfold srcSt
            rw [hl,hs,so,hr,hT,hk];rfl
          rw [es] at hk2 ⊢
          exact ih (j+1) _ (by omega) hk2
      · rename_i e2
        rw [if_neg e2] at h
        have hT:rfT evs j=-1:=by unfold rfT;rw [if_neg e2]
        rw [← hT,← hr] at h ⊢
        exact ih (j+1) _ (by omega) h
structure RowI (p:Prg) (t:Int) (n:Nat) (l:List Ev6):Prop where
  at':∀ j (hj:j < l.length),l[j].t=t∧l[j].i=((n+j:Nat):Int)
  rd:∀ e ∈ l,e.reads=true→0≤e.loc∧e.loc < p.locs.length∧e.r=intA p.init e.loc.toNat
theorem at_cons {t:Int} {n:Nat} {e:Ev6} {l:List Ev6} (h:∀ j (hj:j < l.length),l[j].t=t∧l[j].i=((n+1+j:Nat):Int)) (h1:e.t=t) (h2:e.i=(n:Int)):∀ j (hj:j < (e::l).length),(e::l)[j].t=t∧(e::l)[j].i=((n+j:Nat):Int):=by
  intro j hj
  cases j with
  | zero=>exact ⟨h1,by simpa using h2⟩
  | succ j =>
    have:=h j (by simpa using hj)
    refine ⟨this.1,this.2.trans ?_⟩
    rw [show n+1+j=n+(j+1) by omega]
theorem unf_at {th:List Ins} {t:Int}:∀ (m:Nat) (reads:List Int) (l:Lcl) (n:Nat),th.length - l.pc≤m→∀ j (hj:j < (unfM th t reads l n).1.length),((unfM th t reads l n).1[j]).t=t∧((unfM th t reads l n).1[j]).i=((n+j:Nat):Int):=by
  intro m
  induction m with
  | zero =>
    intro reads l n hm
    rw [unf_none (by unfold nextM;rw [dif_neg (by omega)])]
    simp
  | succ m ih =>
    intro reads l n hm
    cases en:nextM th l with
    | none=>rw [unf_none en];simp
    | some i =>
      have hl:=(nextM_mem en).2.1
      by_cases hk:i.kind=2 ∨ i.kind=4
      · cases reads with
        | nil=>rw [unf_stop en hk];simp
        | cons v rs =>
          rw [unf_read en hk]
          exact at_cons (ih rs (aftM th l v) (n+1) (by have:=aft_pc (x:=v) en;omega)) rfl rfl
      · rw [unf_on en hk]
        exact at_cons (ih reads (aftM th l 0) (n+1) (by have:=aft_pc (x:=0) en;omega)) rfl rfl
theorem evt_reads {i:Ins} {l:Lcl} {x:Int} {t:Int} {n:Nat} (h:(e6 t n (evtM i l x)).reads=true):(i.kind=2 ∨ i.kind=4)∧(e6 t n (evtM i l x)).loc=i.loc∧(e6 t n (evtM i l x)).r=x:=by
  unfold e6 evtM Ev6.reads at *
  by_cases k1:i.kind=1
  · rw [if_pos k1] at h;simp at h
  · by_cases k2:i.kind=2
    · rw [if_neg k1,if_pos k2];exact ⟨.inl k2,rfl,rfl⟩
    · by_cases k4:i.kind=4
      · rw [if_neg k1,if_neg k2,if_pos k4]
        refine ⟨.inr k4,?_⟩
        split <;> exact ⟨rfl,rfl⟩
      · rw [if_neg k1,if_neg k2,if_neg k4] at h;simp at h
theorem unf_nil_rd {th:List Ins} {t:Int}:∀ (m:Nat) (l:Lcl) (n:Nat),th.length - l.pc≤m→∀ e ∈ (unfM th t [] l n).1,e.reads=false:=by
  intro m
  induction m with
  | zero =>
    intro l n hm
    rw [unf_none (by unfold nextM;rw [dif_neg (by omega)])]
    simp
  | succ m ih =>
    intro l n hm
    cases en:nextM th l with
    | none=>rw [unf_none en];simp
    | some i =>
      have hl:=(nextM_mem en).2.1
      by_cases hk:i.kind=2 ∨ i.kind=4
      · rw [unf_stop en hk];simp
      · rw [unf_on en hk]
        intro e he
        rcases List.mem_cons.1 he with rfl | he
        · cases h:(e6 t n (evtM i l 0)).reads with
          | false=>rfl
          | true=>exact absurd (evt_reads h).1 hk
        · exact ih _ _ (by have:=aft_pc (x:=0) en;omega) e he
def RdI (p:Prg) (l:List Ev6):Prop:=∀ e ∈ l,e.reads=true→0≤e.loc∧e.loc < p.locs.length∧e.r=intA p.init e.loc.toNat
theorem unf_more {p:Prg} {th:List Ins} {t:Int} (o:TOk (plP p.locs.length) th):∀ (m:Nat) (reads:List Int) (l:Lcl) (n:Nat) (i:Ins),th.length - l.pc≤m→(unfM th t reads l n).2.2=true→nextM th (unfM th t reads l n).2.1=some i→RdI p (unfM th t reads l n).1 →
    RdI p (unfM th t (reads++[intA p.init i.loc.toNat]) l n).1:=by
  intro m
  induction m with
  | zero =>
    intro reads l n i hm e
    rw [unf_none (by unfold nextM;rw [dif_neg (by omega)])] at e
    simp at e
  | succ m ih =>
    intro reads l n i' hm hs hn hr
    cases en:nextM th l with
    | none=>rw [unf_none en] at hs;simp at hs
    | some i =>
      have hl:=(nextM_mem en).2.1
      have oi:=o.ok i (nextM_mem en).1
      by_cases hk:i.kind=2 ∨ i.kind=4
      · cases reads with
        | nil =>
          rw [unf_stop en hk] at hn
          simp only [en,Option.some.injEq] at hn
          subst hn
          rw [List.nil_append,unf_read en hk]
          intro e he hre
          rcases List.mem_cons.1 he with rfl | he
          · obtain ⟨_,e1,e2⟩:=evt_reads hre
            rw [e1,e2]
            have:plP p.locs.length i.loc:=by
              unfold iOk at oi
              rcases hk with hk | hk <;> rw [hk] at oi <;> simp at oi <;> exact oi.1
            exact ⟨this.1,this.2,rfl⟩
          · rw [unf_nil_rd m _ _ (by have:=aft_pc (x:=intA p.init i.loc.toNat) en;omega) e he] at hre
            simp at hre
        | cons v rs =>
          rw [unf_read en hk] at hs hn hr
          rw [List.cons_append,unf_read en hk]
          intro e he hre
          rcases List.mem_cons.1 he with rfl | he
          · exact hr _ List.mem_cons_self hre
          · exact ih rs (aftM th l v) (n+1) i' (by have:=aft_pc (x:=v) en;omega) hs hn (fun e he=>hr e (List.mem_cons_of_mem _ he)) e he hre
      · rw [unf_on en hk] at hs hn hr
        rw [unf_on en hk]
        intro e he hre
        rcases List.mem_cons.1 he with rfl | he
        · exact hr _ List.mem_cons_self hre
        · exact ih reads (aftM th l 0) (n+1) i' (by have:=aft_pc (x:=0) en;omega) hs hn (fun e he=>hr e (List.mem_cons_of_mem _ he)) e he hre
theorem foldl_grow {β:Type} {f:List (List Ev6)→β→List (List Ev6)} (hf:∀ o v,(∀ x ∈ o,x ∈ f o v)∧o.length≤(f o v).length):∀ (l:List β) (o:List (List Ev6)),(∀ x ∈ o,x ∈ l.foldl f o)∧o.length≤(l.foldl f o).length
  | [],o=>⟨fun _ h=>h,Nat.le_refl _⟩
  | v :: l, o => by
    have a:=hf o v
    have b:=foldl_grow hf l (f o v)
    exact ⟨fun x hx=>b.1 x (a.1 x hx),Nat.le_trans a.2 b.2⟩
theorem thr_grow {th:List Ins} {t:Int} {values:List (List Int)} {most n:Nat}:∀ reads out,(∀ x ∈ out,x ∈ thrF th t values most n reads out)∧out.length≤(thrF th t values most n reads out).length:=by
  induction n with
  | zero=>intro _ _;exact ⟨fun _ h=>h,Nat.le_refl _⟩
  | succ n ih =>
    intro reads out
    rw [thrF]
    split
    · exact ⟨fun _ h=>h,Nat.le_refl _⟩
    · split
      · exact ⟨fun x h=>List.mem_append_left _ h,by simp⟩
      · exact foldl_grow (fun o v=>ih (reads++[v]) o) _ _
def VIn (p:Prg) (values:List (List Int)):Prop:=∀ c,c < p.locs.length→intA p.init c ∈ (values[c]?).getD []
theorem thr_tgt {p:Prg} {th:List Ins} {t:Int} (o:TOk (plP p.locs.length) th) (hth:th.length≤11) {values:List (List Int)} (hv:VIn p values) {most:Nat}:∀ (n:Nat) (reads:List Int) (out:List (List Ev6)),12≤reads.length+n→reads.length≤11 →
    RdI p (unfM th t reads (nrm th .zero) 0).1→(thrF th t values most n reads out).length≤most→∃ row ∈ thrF th t values most n reads out,RowI p t 0 row:=by
  intro n
  induction n with
  | zero=>intro reads out h1 h2;omega
  | succ n ih =>
    intro reads out h1 h2 hr hl
    rw [thrF] at hl ⊢
    split
    · rename_i e;rw [if_pos e] at hl;omega
    · rename_i e
      rw [if_neg e] at hl
      split
      · exact ⟨_,List.mem_append_right _ (List.mem_singleton.2 rfl),⟨unf_at th.length _ _ _ (by omega),hr⟩⟩
      · rename_i e2
        rw [if_neg e2] at hl
        have e2:(unfM th t reads (nrm th .zero) 0).2.2=true:=by simpa using e2
        obtain ⟨hw,i,hi,hk⟩:=unf_wait th.length reads (nrm th .zero) 0 (by omega) e2
        have hloc:plP p.locs.length i.loc:=by
          have oi:=o.ok i (nextM_mem hi).1
          unfold iOk at oi
          rcases hk with hk | hk <;> rw [hk] at oi <;> simp at oi <;> exact oi.1
        have hm:=hv i.loc.toNat (by have:=hloc.1;have:=hloc.2;omega)
        have hmore:=unf_more o th.length reads (nrm th .zero) 0 i (by omega) e2 hi hr
        rw [hi] at hl ⊢
        simp only [Option.getD_some] at hl ⊢
        obtain ⟨l1,l2,el⟩:=List.append_of_mem hm
        rw [el,List.foldl_append,List.foldl_cons] at hl ⊢
        have gr:=foldl_grow (f:=fun o v=>thrF th t values most n (reads++[v]) o) (fun o v=>thr_grow (reads++[v]) o) l2 (thrF th t values most n (reads++[intA p.init i.loc.toNat]) (List.foldl (fun o v=>thrF th t values most n (reads++[v]) o) out l1))
        obtain ⟨row,r1,r2⟩:=ih (reads++[intA p.init i.loc.toNat]) (List.foldl (fun o v=>thrF th t values most n (reads++[v]) o) out l1) (by simp;omega) (by simp;omega) hmore (Nat.le_trans gr.2 hl)
        exact ⟨row,gr.1 row r1,r2⟩
theorem VIn.e {p:Prg} {vs:List (List Int)} (h:VIn p vs) (e:Ev6):VIn p (valE vs e):=by
  unfold valE
  split
  · intro c hc
    have hm:=h c hc
    rw [List.getElem?_set]
    split
    · rename_i ec
      subst ec
      split
      · simp only [Option.getD_some]
        unfold withM
        split
        · exact hm
        · exact List.mem_append_left _ hm
      · rename_i hl
        rw [List.getElem?_eq_none (by omega)] at hm
        simp at hm
    · exact hm
  · exact h
theorem VIn.fold {p:Prg} {α:Type} {f:List (List Int)→α→List (List Int)} (hf:∀ vs a,VIn p vs→VIn p (f vs a)):∀ (l:List α) {vs:List (List Int)},VIn p vs→VIn p (l.foldl f vs)
  | [],_,h=>h
  | a::l,_,h=>VIn.fold hf l (hf _ a h)
theorem VIn.m {p:Prg} {vs:List (List Int)} (h:VIn p vs) {T:Nat} {un:List (List (List Ev6))}:VIn p (valsM T un vs) :=
  VIn.fold (fun vs t h=>VIn.fold (fun vs row h=>VIn.fold (fun vs e h=>h.e e) row h) (unA un t) h) (List.range T) h
theorem VIn.n {p:Prg} (hl:p.locs.length≤4):VIn p (valsN p p.locs.length):=by
  intro c hc
  unfold valsN
  rw [List.getElem?_map,List.getElem?_range (by omega)]
  simp [hc]
def GoodU (p:Prg) (un:List (List (List Ev6))):Prop:=∀ t:Nat,t < p.ths.length→∃ row ∈ unA un t,RowI p t 0 row
theorem unM_good {p:Prg} (O:ThOk p) (hT:p.ths.length≤4) {vals:List (List Int)} (hv:VIn p vals) (ha:¬ (unM p vals).any (fun l=>decide (3000 < l.length))=true):GoodU p (unM p vals):=by
  intro t ht
  rw [unA_unM (by omega)]
  have hl:(unT p vals t).length≤3000:=by
    rcases Nat.lt_or_ge 3000 (unT p vals t).length with h | h
    · refine absurd (List.any_eq_true.2 ⟨unT p vals t,List.mem_map.2 ⟨t,List.mem_range.2 (by omega),rfl⟩,by simpa using h⟩) ha
    · exact h
  unfold unT at hl ⊢
  rw [List.getElem?_eq_getElem ht] at hl ⊢
  have o:=O.ok _ (List.getElem_mem ht)
  refine thr_tgt o.1 o.2 hv 12 [] [] (by simp) (by simp) (fun e he hre=>?_) hl
  rw [unf_nil_rd p.ths[t].length _ _ (by omega) e he] at hre
  simp at hre
theorem turns_good {p:Prg} (O:ThOk p) (hT:p.ths.length≤4):∀ (k:Nat) (vals:List (List Int)) (un un':List (List (List Ev6))),(k=0→GoodU p un)→VIn p vals→turnsF p k vals un=some un'→GoodU p un':=by
  intro k
  induction k with
  | zero=>intro vals un un' hu hv h;rw [turnsF] at h;obtain rfl:=Option.some.inj h;exact hu rfl
  | succ k ih =>
    intro vals un un' hu hv h
    rw [turnsF] at h
    split at h
    · simp at h
    · rename_i ha
      split at h
      · obtain rfl:=Option.some.inj h
        exact unM_good O hT hv ha
      · split at h
        · simp at h
        · exact ih _ _ _ (fun _=>unM_good O hT hv ha) hv.m h
theorem evA_left {evs row:List Ev6} {a:Nat} (h:a < evs.length):evA (evs++row) a=evA evs a:=by
  unfold evA;rw [List.getElem?_append_left h]
theorem evA_right {evs row:List Ev6} {a:Nat} (h:evs.length≤a):evA (evs++row) a=evA row (a - evs.length):=by
  unfold evA;rw [List.getElem?_append_right h]
structure TgtP (p:Prg) (evs:List Ev6) (t:Nat):Prop where
  t':TgtE p evs
  lt:∀ e ∈ evs,e.t=-1 ∨ (0≤e.t∧e.t < t)
theorem TgtP.add {p:Prg} {evs:List Ev6} {t:Nat} {row:List Ev6} (h:TgtP p evs t) (r:RowI p t 0 row):TgtP p (evs++row) (t+1):=by
  have rt:∀ e ∈ row,e.t=(t:Int):=fun e he=>by
    obtain ⟨j,hj,rfl⟩:=List.getElem_of_mem he
    exact (r.at' j hj).1
  have le:=h.t'.le
  refine ⟨⟨by rw [List.length_append];omega,fun k hk=>?_,fun b hb hr=>?_,fun a b ha hb hp=>?_⟩,fun e he=>?_⟩
  · rw [evA_left (by omega)];exact h.t'.ini k hk
  · by_cases h1:b < evs.length
    · rw [evA_left h1] at hr ⊢
      exact h.t'.rd b h1 hr
    · rw [List.length_append] at hb
      rw [evA_right (by omega)] at hr ⊢
      rw [evA_of (show b - evs.length < row.length by omega)] at hr ⊢
      have:=r.rd _ (List.getElem_mem _) hr
      exact ⟨by omega,this⟩
  · rw [List.length_append] at ha hb
    unfold poP poE at hp
    simp only [Bool.or_eq_true,Bool.and_eq_true,decide_eq_true_eq] at hp
    by_cases h1:a < evs.length
    · by_cases h2:b < evs.length
      · rw [evA_left h1,evA_left h2] at hp
        exact h.t'.ord a b h1 h2 (by unfold poP poE;simp only [Bool.or_eq_true,Bool.and_eq_true,decide_eq_true_eq];exact hp)
      · omega
    · rw [evA_right (by omega),evA_of (show a - evs.length < row.length by omega)] at hp
      have at':=r.at' (a - evs.length) (by omega)
      by_cases h2:b < evs.length
      · rw [evA_left h2,evA_of h2] at hp
        have:=h.lt _ (List.getElem_mem h2)
        have:=at'.1
        omega
      · rw [evA_right (by omega),evA_of (show b - evs.length < row.length by omega)] at hp
        have bt':=r.at' (b - evs.length) (by omega)
        have:=at'.1;have:=at'.2;have:=bt'.1;have:=bt'.2
        omega
  · rcases List.mem_append.1 he with he | he
    · rcases h.lt e he with h | h <;> omega
    · have:=rt e he;omega
theorem TgtP.inits {p:Prg}:TgtP p (initsM p) 0:=by
  have hl:(initsM p).length=p.locs.length:=by simp [initsM]
  have hi:∀ k,k < p.locs.length→evA (initsM p) k=iniE p k:=fun k hk=>by
    rw [evA_of (by omega)];simp [initsM]
  refine ⟨⟨by omega,hi,fun b hb hr=>?_,fun a b ha hb hp=>?_⟩,fun e he=>?_⟩
  · rw [hi b (by omega)] at hr
    simp [iniE,Ev6.reads] at hr
  · unfold poP at hp
    rw [hi a (by omega),hi b (by omega)] at hp
    simp [iniE,poE] at hp
  · unfold initsM at he
    obtain ⟨i,_,rfl⟩:=List.mem_map.1 he
    exact .inl rfl
theorem ch_mono {n:Nat}:∀ nl T t evs un out most,out ≠ []→(chF n nl T t evs un out most).2 ≠ []:=by
  induction n with
  | zero=>intro _ _ _ _ _ _ _ h;rw [chF];exact h
  | succ n ih =>
    intro nl T t evs un out most h
    rw [chF_eq]
    split
    · exact src_mono _ _ _ _ _ h
    · refine fold_mono (fun s a hs=>?_) h
      unfold chSt
      split
      · exact ih _ _ _ _ _ _ _ hs
      · exact hs
theorem ch_ne {p:Prg} {un:List (List (List Ev6))} (hu:GoodU p un) {most:Nat}:∀ (n t:Nat) (evs:List Ev6) (out:List Exe),t≤p.ths.length→TgtP p evs t→(chF n p.locs.length p.ths.length t evs un out most).1=true→(chF n p.locs.length p.ths.length t evs un out most).2 ≠ []:=by
  intro n
  induction n with
  | zero=>intro t evs out _ _ h;simp [chF] at h
  | succ n ih =>
    intro t evs out ht T h
    rw [chF_eq] at h ⊢
    split
    · rename_i e
      rw [if_pos e] at h
      exact src_ne T.t' 100 0 out (by omega) h
    · rename_i e
      rw [if_neg e] at h
      obtain ⟨row,hm,hr⟩:=hu t (by omega)
      obtain ⟨k,hk,ek⟩:=List.getElem_of_mem hm
      refine fold_ne (k:=k) (fun s a hs=>?_) (fun s a hs=>?_) (fun s hs hk2=>?_) (List.mem_range.2 hk) h
      · unfold chSt;rw [hs];exact hs
      · unfold chSt
        split
        · exact ch_mono _ _ _ _ _ _ _ hs
        · exact hs
      · have es:chSt n p.locs.length p.ths.length t evs un most s k=chF n p.locs.length p.ths.length (t+1) (evs++row) un s.2 most:=by
          unfold chSt rowA
          rw [hs,List.getElem?_eq_getElem hk,ek];rfl
        rw [es] at hk2 ⊢
        exact ih (t+1) _ _ (by omega) (T.add hr) hk2
theorem all_ne {p:Prg} (O:ThOk p) (hT:p.ths.length≤4) (hl:p.locs.length≤4) {most:Nat}:(allM p most).2=true ↔ 0 < (allM p most).1.length:=by
  unfold allM
  cases e:allU p with
  | none=>simp
  | some un =>
    have hu:=turns_good O hT (readsM p+1) (valsN p p.locs.length) [[],[],[],[]] un (by omega) (.n hl) e
    have:=ch_ne hu (most:=most) 5 0 (initsM p) [] (by omega) .inits
    simp only
    cases er:chF 5 p.locs.length p.ths.length 0 (initsM p) un [] most with
    | mk b L =>
      rw [er] at this
      cases b with
      | true=>simpa [List.length_pos_iff] using this rfl
      | false=>simp
end Go.Jq
namespace Go.Jq.NF
def N64 (x:Int):Prop:=-9223372036854775808≤x∧x < 9223372036854775808
theorem wrap_n64 (x:Int):N64 (IntKind.i64.wrap x):=by
  unfold N64
  simp only [IntKind.wrap,IntKind.bits,IntKind.signed]
  simp
  split <;> omega
def LOk (l:Lcl):Prop:=N64 l.r0∧N64 l.r1∧N64 l.r2∧N64 l.r3
theorem n64_0:N64 0:=by unfold N64;omega
theorem LOk.zero:LOk .zero:=⟨n64_0,n64_0,n64_0,n64_0⟩
theorem valM_n64 {r v:Int} {l:Lcl} (h:LOk l) (hv:0≤v∧v≤65535):N64 (valM r v l):=by
  unfold valM
  split
  · exact h.1
  · split
    · exact h.2.1
    · unfold N64;omega
theorem set_n64 {r v:Int} {l:Lcl} (h:LOk l) (hv:N64 v):LOk (l.set r v):=by
  unfold Lcl.set
  split
  · exact ⟨hv,h.2⟩
  · exact ⟨h.1,hv,h.2.2⟩
def VOk (th:List Ins):Prop:=th.length≤11∧∀ i ∈ th,vOk i∧N64 i.loc
theorem setV_n64 {i:Ins} {l:Lcl} (hi:vOk i) (h:LOk l):N64 (setV i l):=by
  unfold setV
  split
  · exact valM_n64 h hi.1
  · unfold ixor;exact wrap_n64 _
theorem nrm_n64 {th:List Ins} (hv:VOk th) {l:Lcl} (h:LOk l):LOk (nrm th l):=by
  generalize hm:th.length - l.pc=m
  induction m using Nat.strongRecOn generalizing l with
  | _ m ih =>
    rw [nrm]
    split
    · rename_i hl
      have hi:=(hv.2 _ (List.getElem_mem hl)).1
      split
      · exact ih _ (by show th.length - (l.pc+1) < m;omega) (set_n64 h (setV_n64 hi h)) rfl
      · split
        · split
          · exact ih _ (by show th.length - (l.pc+1+1) < m;omega) h rfl
          · exact ih _ (by show th.length - (l.pc+1) < m;omega) h rfl
        · exact h
    · exact h
theorem aft_n64 {th:List Ins} (hv:VOk th) {l:Lcl} {x:Int} (h:LOk l) (hx:N64 x):LOk (aftM th l x):=by
  cases en:nextM th l with
  | none =>
    have:aftM th l x=l:=by unfold aftM;rw [en]
    rw [this];exact h
  | some i =>
    have:aftM th l x=nrm th { (if i.kind=2 ∨ i.kind=4 then l.set i.reg x else l) with pc:=l.pc+1 }:=by unfold aftM;rw [en]
    rw [this]
    refine nrm_n64 hv ?_
    split
    · exact set_n64 h hx
    · exact h
def EOk (e:Ev6):Prop:=(N64 e.t∧N64 e.i∧N64 e.kind∧N64 e.loc)∧N64 e.r∧N64 e.w
def EsOk (l:List Ev6):Prop:=∀ e ∈ l,EOk e
theorem evt_n64 {i:Ins} {l:Lcl} {x:Int} {t:Int} {n:Nat} (hi:vOk i) (hl:N64 i.loc) (ht:N64 t) (hn:n≤100) (h:LOk l) (hx:N64 x):EOk (e6 t n (evtM i l x)):=by
  have hn':N64 (n:Int):=by unfold N64;omega
  have c:∀ m:Int,0≤m∧m≤5→N64 m:=fun m hm=>by unfold N64;omega
  unfold EOk e6 evtM
  split
  · exact ⟨⟨ht,hn',c 2 (by omega),hl⟩,n64_0,valM_n64 h hi.1⟩
  · split
    · exact ⟨⟨ht,hn',c 1 (by omega),hl⟩,hx,n64_0⟩
    · split
      · split
        · exact ⟨⟨ht,hn',c 4 (by omega),hl⟩,hx,valM_n64 h hi.2⟩
        · exact ⟨⟨ht,hn',c 5 (by omega),hl⟩,hx,n64_0⟩
      · exact ⟨⟨ht,hn',c 3 (by omega),n64_0⟩,n64_0,n64_0⟩
theorem unf_n64 {th:List Ins} {t:Int} (ht:N64 t) (hv:VOk th):∀ (m:Nat) (reads:List Int) (l:Lcl) (k:Nat),k≤l.pc→th.length - l.pc≤m→(∀ x ∈ reads,N64 x)→LOk l→EsOk (unfM th t reads l k).1∧LOk (unfM th t reads l k).2.1:=by
  intro m
  induction m with
  | zero =>
    intro reads l k hkp hm hr h
    rw [unf_none (by unfold nextM;rw [dif_neg (by omega)])]
    exact ⟨fun e he=>(by cases he),h⟩
  | succ m ih =>
    intro reads l k hkp hm hr h
    cases en:nextM th l with
    | none=>rw [unf_none en];exact ⟨fun e he=>(by cases he),h⟩
    | some i =>
      have hl:=(nextM_mem en).2.1
      have hi:=(hv.2 i (nextM_mem en).1).1
      have hloc:=(hv.2 i (nextM_mem en).1).2
      have hk100:k≤100:=by have:=hv.1;omega
      by_cases hk:i.kind=2 ∨ i.kind=4
      · cases reads with
        | nil=>rw [unf_stop en hk];exact ⟨fun e he=>(by cases he),h⟩
        | cons v rs =>
          rw [unf_read en hk]
          have hv0:=hr v List.mem_cons_self
          have:=ih rs (aftM th l v) (k+1) (by have:=aft_pc (x:=v) en;omega) (by have:=aft_pc (x:=v) en;omega) (fun x hx=>hr x (List.mem_cons_of_mem _ hx)) (aft_n64 hv h hv0)
          exact ⟨fun e he=>by
            rcases List.mem_cons.mp he with rfl | he
            · exact evt_n64 hi hloc ht hk100 h hv0
            · exact this.1 e he,this.2⟩
      · rw [unf_on en hk]
        have:=ih reads (aftM th l 0) (k+1) (by have:=aft_pc (x:=0) en;omega) (by have:=aft_pc (x:=0) en;omega) hr (aft_n64 hv h n64_0)
        exact ⟨fun e he=>by
          rcases List.mem_cons.mp he with rfl | he
          · exact evt_n64 hi hloc ht hk100 h n64_0
          · exact this.1 e he,this.2⟩
theorem foldl_invm {α β:Type} {f:β→α→β} {P:β→Prop} (l:List α) (hf:∀ b a,a ∈ l→P b→P (f b a)) {b:β} (hb:P b):P (l.foldl f b):=by
  induction l generalizing b with
  | nil=>exact hb
  | cons a l ih=>exact ih (fun b c hc=>hf b c (List.mem_cons_of_mem _ hc)) (hf b a List.mem_cons_self hb)
def VsOk (vals:List (List Int)):Prop:=∀ l ∈ vals,∀ x ∈ l,N64 x
theorem thr_n64 {th:List Ins} {t:Int} {values:List (List Int)} {most n:Nat} (ht:N64 t) (hv:VOk th) (hvs:VsOk values):∀ reads out,(∀ x ∈ reads,N64 x)→(∀ l ∈ out,EsOk l)→∀ l ∈ thrF th t values most n reads out,EsOk l:=by
  induction n with
  | zero=>intro _ _ _ h;exact h
  | succ n ih =>
    intro reads out hr ho
    rw [thrF]
    split
    · exact ho
    · split
      · intro l hm
        rcases List.mem_append.mp hm with hm | hm
        · exact ho l hm
        · simp only [List.mem_singleton] at hm
          subst hm
          exact (unf_n64 ht hv th.length _ _ _ (by omega) (by omega) hr (nrm_n64 hv LOk.zero)).1
      · have hrow:∀ x ∈ (values[((nextM th (unfM th t reads (nrm th .zero) 0).2.1).getD Ins.zero).loc.toNat]?).getD [],N64 x:=by
          intro x hx
          cases e:values[((nextM th (unfM th t reads (nrm th .zero) 0).2.1).getD Ins.zero).loc.toNat]? with
          | none=>rw [e] at hx;cases hx
          | some r=>rw [e] at hx;exact hvs r (List.mem_of_getElem? e) x hx
        exact foldl_invm (P:=fun o:List (List Ev6)=>∀ l ∈ o,EsOk l) _ (fun o v hvm ho=>ih (reads++[v]) o (fun x hx=>by
          rcases List.mem_append.mp hx with hx | hx
          · exact hr x hx
          · simp only [List.mem_singleton] at hx;subst hx;exact hrow _ hvm) ho) ho
theorem unT_n64 {p:Prg} {vals:List (List Int)} {t:Nat} (hT:p.ths.length≤4) (hp:∀ l ∈ p.ths,VOk l) (hv:VsOk vals):∀ l ∈ unT p vals t,EsOk l:=by
  unfold unT
  split
  · rename_i th e
    have ht:=(List.getElem?_eq_some_iff.1 e).1
    exact thr_n64 (by unfold N64;omega) (hp th (List.mem_of_getElem? e)) hv [] [] (by simp) (by simp)
  · simp
def UsOk (un:List (List (List Ev6))):Prop:=∀ t,∀ l ∈ unA un t,EsOk l
theorem unM_n64 {p:Prg} {vals:List (List Int)} (hT:p.ths.length≤4) (hp:∀ l ∈ p.ths,VOk l) (hv:VsOk vals):UsOk (unM p vals):=fun t l hl=>by
  rw [unA_all hT] at hl
  exact unT_n64 hT hp hv l hl
theorem valE_n64 {vs:List (List Int)} {e:Ev6} (hv:VsOk vs) (he:EOk e):VsOk (valE vs e):=by
  unfold valE
  split
  · intro l hl x hx
    rcases List.mem_or_eq_of_mem_set hl with hl | rfl
    · exact hv l hl x hx
    · have hin:∀ y ∈ (vs[e.loc.toNat]?).getD [],N64 y:=fun y hy=>by
        cases q:vs[e.loc.toNat]? with
        | none=>rw [q] at hy;cases hy
        | some r=>rw [q] at hy;exact hv r (List.mem_of_getElem? q) y hy
      unfold withM at hx
      split at hx
      · exact hin x hx
      · rcases List.mem_append.mp hx with hx | hx
        · exact hin x hx
        · simp only [List.mem_singleton] at hx;subst hx;exact he.2.2
  · exact hv
theorem valsM_n64 {T:Nat} {un:List (List (List Ev6))} {vals:List (List Int)} (hu:UsOk un) (hv:VsOk vals):VsOk (valsM T un vals) :=
  foldl_invm (P:=VsOk) _ (fun _ t _ h=>foldl_invm (P:=VsOk) _ (fun _ row hrow h=>foldl_invm (P:=VsOk) _ (fun _ e he h=>valE_n64 h (hu t row hrow e he)) h) h) hv
theorem turns_n64 {p:Prg} (hT:p.ths.length≤4) (hp:∀ l ∈ p.ths,VOk l):∀ (k:Nat) (vals:List (List Int)) (un u:List (List (List Ev6))),VsOk vals→UsOk un→turnsF p k vals un=some u→UsOk u:=by
  intro k
  induction k with
  | zero=>intro vals un u _ hu e;rw [turnsF] at e;obtain rfl:=Option.some.inj e;exact hu
  | succ k ih =>
    intro vals un u hv hu e
    have hu2:=unM_n64 hT hp hv
    rw [turnsF] at e
    split at e
    · simp at e
    · split at e
      · obtain rfl:=Option.some.inj e;exact hu2
      · split at e
        · simp at e
        · exact ih _ _ _ (valsM_n64 hu2 hv) hu2 e
theorem ch_ev {nl T most:Nat} {P:Exe→Prop} {un:List (List (List Ev6))} (hu:UsOk un) (hP:∀ x,EsOk x.evs→Shp nl x→P x):∀ (n t:Nat) (evs:List Ev6) (out:List Exe),EsOk evs→nl≤evs.length→(∀ y ∈ out,P y)→∀ y ∈ (chF n nl T t evs un out most).2,P y:=by
  intro n
  induction n with
  | zero=>intro _ _ _ _ _ h;rw [chF];exact h
  | succ n ih =>
    intro t evs out he hle ho
    rw [chF_eq]
    split
    · exact src_sh hle (fun x e s=>hP x (by rw [e];exact he) s) _ _ _ (by intro y hy;simp at hy) ho
    · refine fold_sh ho fun k hk s hs=>?_
      have hk:=List.mem_range.mp hk
      unfold chSt
      split
      · refine ih _ _ _ (fun e hm=>?_) (by simp;omega) hs
        rcases List.mem_append.mp hm with hm | hm
        · exact he e hm
        · unfold rowA at hm
          rw [List.getElem?_eq_getElem hk] at hm
          exact hu t _ (List.getElem_mem hk) e hm
      · exact hs
theorem all_ev {p:Prg} {most:Nat} (hL:p.locs.length≤4) (hT:p.ths.length≤4) (hp:∀ l ∈ p.ths,VOk l) (hi:∀ x ∈ p.init,0≤x∧x≤65535):∀ x ∈ (allM p most).1,EsOk x.evs∧Shp p.locs.length x:=by
  have hin:∀ j,N64 (intA p.init j):=fun j=>by
    unfold intA
    cases e:p.init[j]? with
    | none=>exact n64_0
    | some v=>have:=hi v (List.mem_of_getElem? e);show N64 v;unfold N64;omega
  have hv0:VsOk (valsN p p.locs.length):=fun l hl x hx=>by
    unfold valsN at hl
    obtain ⟨j,_,rfl⟩:=List.mem_map.mp hl
    split at hx
    · simp only [List.mem_singleton] at hx;subst hx;exact hin j
    · cases hx
  have hu0:UsOk [[],[],[],[]]:=fun t l hl=>by rw [unA0] at hl;cases hl
  have hini:EsOk (initsM p):=fun e he=>by
    unfold initsM at he
    obtain ⟨j,hj,rfl⟩:=List.mem_map.mp he
    have hj:=List.mem_range.mp hj
    have hj':N64 (j:Int):=by unfold N64;omega
    exact ⟨⟨show N64 (-1) by unfold N64;omega,hj',show N64 2 by unfold N64;omega,hj'⟩,n64_0,hin j⟩
  unfold allM
  split
  · simp
  · rename_i un eu
    have hu:UsOk un:=turns_n64 hT hp _ _ _ _ hv0 hu0 eu
    have:=ch_ev (nl:=p.locs.length) (T:=p.ths.length) (most:=most) (P:=fun x=>EsOk x.evs∧Shp p.locs.length x) hu (fun _ a b=>⟨a,b⟩) 5 0 (initsM p) [] hini (by simp [initsM]) (by simp)
    split
    · rename_i e;rw [e] at this;exact this
    · simp
end Go.Jq.NF
namespace Go.Jq
def js (s:UInt8) (ws:List (List UInt8)):List UInt8:=Lib.join ws [s]
theorem js_one {s:UInt8} {a:List UInt8}:js s [a]=a:=by simp [js,Lib.join_one]
theorem js_cons {s:UInt8} {a b:List UInt8} {r:List (List UInt8)}:js s (a::b::r)=a++(s::js s (b::r)):=by
  unfold js
  rw [Lib.join_cons,Lib.join_cons]
  simp [Lib.joinTail]
theorem split_sep {s:UInt8} {a b c d:List UInt8} (ha:s ∉ a) (hc:s ∉ c) (e:a++(s::b)=c++(s::d)):a=c∧b=d:=by
  induction a generalizing c with
  | nil =>
    cases c with
    | nil=>simpa using e
    | cons x c=>simp at e;exact absurd (by rw [e.1];simp) hc
  | cons y a ih =>
    cases c with
    | nil=>simp at e;exact absurd (by rw [e.1];simp) ha
    | cons x c =>
      simp only [List.cons_append,List.cons.injEq] at e
      obtain ⟨rfl,e⟩:=e
      have:=ih (fun h=>ha (List.mem_cons_of_mem _ h)) (fun h=>hc (List.mem_cons_of_mem _ h)) e
      exact ⟨by rw [this.1],this.2⟩
theorem js_inj {s:UInt8}:∀ {ws vs:List (List UInt8)},(∀ w ∈ ws,s ∉ w)→(∀ w ∈ vs,s ∉ w)→ws ≠ []→vs ≠ []→js s ws=js s vs→ws=vs
  | [],_,_,_,h,_,_=>absurd rfl h
  | _,[],_,_,_,h,_=>absurd rfl h
  | [a],[b],_,_,_,_,e=>by rw [js_one,js_one] at e;rw [e]
  | [a], c :: d :: q, h1, _, _, _, e => by
    rw [js_one,js_cons] at e
    exact absurd (by rw [e];simp) (h1 a (by simp))
  | a :: b :: r, [c], _, h2, _, _, e => by
    rw [js_one,js_cons] at e
    exact absurd (by rw [← e];simp) (h2 c (by simp))
  | a :: b :: r, c :: d :: q, h1, h2, _, _, e => by
    rw [js_cons,js_cons] at e
    obtain ⟨e1,e2⟩:=split_sep (h1 a (by simp)) (h2 c (by simp)) e
    have:=js_inj (ws:=b::r) (vs:=d::q) (fun w hw=>h1 w (List.mem_cons_of_mem _ hw)) (fun w hw=>h2 w (List.mem_cons_of_mem _ hw)) (by simp) (by simp) e2
    rw [e1,this]
theorem js_mem {s x:UInt8}:∀ {ws:List (List UInt8)},x ∈ js s ws→x=s ∨ ∃ w ∈ ws,x ∈ w
  | [],h=>by simp [js,Lib.join] at h
  | [a],h=>by rw [js_one] at h;exact .inr ⟨a,by simp,h⟩
  | a :: b :: r, h => by
    rw [js_cons] at h
    rcases List.mem_append.1 h with h | h
    · exact .inr ⟨a,by simp,h⟩
    · rcases List.mem_cons.1 h with h | h
      · exact .inl h
      · rcases js_mem h with h | ⟨w,hw,h⟩
        · exact .inl h
        · exact .inr ⟨w,List.mem_cons_of_mem _ hw,h⟩
theorem itoaF_chr {n:Int} (h:I64 n):∀ d ∈ itoaF n,d=45 ∨ (48≤d.toNat∧d.toNat≤57):=by
  unfold I64 at h
  rw [itoaF_eq]
  split
  · intro d hd
    rcases List.mem_cons.1 hd with e | e
    · exact .inl e
    · exact .inr (dec_digit (by omega) d e)
  · exact fun d hd=>.inr (dec_digit (by omega) d hd)
theorem itoaF_not {n:Int} (h:I64 n) {s:UInt8} (hs:s=32 ∨ s=44 ∨ s=99):s ∉ itoaF n:=fun e=>by
  rcases itoaF_chr h s e with r | r
  · rcases hs with rfl | rfl | rfl <;> simp at r
  · rcases hs with rfl | rfl | rfl <;> simp at r
theorem itoaF_ne {n:Int} (h:I64 n):itoaF n ≠ []:=by
  unfold I64 at h
  rw [itoaF_eq]
  split
  · simp
  · exact dec_ne (by omega)
def jc (l:List Int):List UInt8:=js 44 (l.map itoaF)
theorem jc_inj {l m:List Int} (hl:∀ x ∈ l,I64 x) (hm:∀ x ∈ m,I64 x) (h1:l ≠ []) (h2:m ≠ []) (e:jc l=jc m):l=m:=by
  have no:∀ {l:List Int},(∀ x ∈ l,I64 x)→∀ w ∈ l.map itoaF,(44:UInt8) ∉ w:=fun h w hw=>by
    obtain ⟨x,hx,rfl⟩:=List.mem_map.1 hw
    exact itoaF_not (h x hx) (.inr (.inl rfl))
  have:=js_inj (no hl) (no hm) (by simpa using h1) (by simpa using h2) e
  clear e h1 h2
  induction l generalizing m with
  | nil=>cases m <;> simp at this ⊢
  | cons a l ih =>
    cases m with
    | nil=>simp at this
    | cons b m =>
      simp only [List.map_cons,List.cons.injEq] at this
      rw [itoaF_inj (hl a List.mem_cons_self) (hm b List.mem_cons_self) this.1,ih (fun x hx=>hl x (List.mem_cons_of_mem _ hx)) (fun x hx=>hm x (List.mem_cons_of_mem _ hx)) this.2]
theorem jc_chr {l:List Int} (hl:∀ x ∈ l,I64 x):∀ d ∈ jc l,d=44 ∨ d=45 ∨ (48≤d.toNat∧d.toNat≤57):=fun d hd=>by
  rcases js_mem hd with h | ⟨w,hw,h⟩
  · exact .inl h
  · obtain ⟨x,hx,rfl⟩:=List.mem_map.1 hw
    exact .inr (itoaF_chr (hl x hx) d h)
theorem jc_ne {l:List Int} (hl:∀ x ∈ l,I64 x) (h:l ≠ []):jc l ≠ []:=by
  match l,h with
  | [a],_=>unfold jc;rw [List.map_cons,List.map_nil,js_one];exact itoaF_ne (hl a (by simp))
  | a::b::r,_=>unfold jc;rw [List.map_cons,List.map_cons,js_cons];simp
def keyE (e:Ev6) (f:Int):List Int:=[e.t,e.i,e.kind,e.loc,e.r,e.w,f]
def wordE (e:Ev6) (f:Int):List UInt8:=jc (keyE e f)
def wordC (l:List Int):List UInt8:=99::jc l
def wsE (x:Exe) (n:Nat):List (List UInt8):=(List.range n).map fun i=>wordE (evA x.evs i) (intA x.rf i)
def wsX (x:Exe):List (List UInt8):=wsE x x.evs.length++x.co.map wordC
def txtX (x:Exe):List UInt8:=jn (wsX x)
structure Big (x:Exe):Prop where
  ev:∀ e ∈ x.evs,(I64 e.t∧I64 e.i∧I64 e.kind∧I64 e.loc)∧I64 e.r∧I64 e.w
  rf:∀ f ∈ x.rf,I64 f
  co:∀ l ∈ x.co,∀ i ∈ l,I64 i
  ne:∀ l ∈ x.co,l ≠ []
  len:x.rf.length=x.evs.length
theorem Big.key {x:Exe} (b:Big x) {i:Nat} (hi:i < x.evs.length):∀ y ∈ keyE (evA x.evs i) (intA x.rf i),I64 y:=by
  have h:=b.ev _ (List.getElem_mem hi)
  have hr:intA x.rf i=x.rf[i]'(by rw [b.len];exact hi):=intA_of _
  have hf:=b.rf _ (List.getElem_mem (by rw [b.len];exact hi:i < x.rf.length))
  rw [evA_of hi,hr]
  intro y hy
  simp only [keyE,List.mem_cons,List.not_mem_nil,or_false] at hy
  rcases hy with rfl | rfl | rfl | rfl | rfl | rfl | rfl
  · exact h.1.1
  · exact h.1.2.1
  · exact h.1.2.2.1
  · exact h.1.2.2.2
  · exact h.2.1
  · exact h.2.2
  · exact hf
theorem app_split {α:Type} {P:α→Prop}:∀ {a b c d:List α},(∀ x ∈ a,P x)→(∀ x ∈ c,P x)→(∀ x ∈ b,¬ P x)→(∀ x ∈ d,¬ P x)→a++b=c++d→a=c∧b=d
  | [],b,[],d,_,_,_,_,e=>⟨rfl,by simpa using e⟩
  | [], b, y :: c, d, _, hc, hb, _, e => by
    rw [List.nil_append] at e
    exact absurd (hc y (by simp)) (hb y (by rw [e];simp))
  | x :: a, b, [], d, ha, _, _, hd, e => by
    rw [List.nil_append] at e
    exact absurd (ha x (by simp)) (hd x (by rw [← e];simp))
  | x :: a, b, y :: c, d, ha, hc, hb, hd, e => by
    simp only [List.cons_append,List.cons.injEq] at e
    have:=app_split (fun z hz=>ha z (List.mem_cons_of_mem _ hz)) (fun z hz=>hc z (List.mem_cons_of_mem _ hz)) hb hd e.2
    exact ⟨by rw [e.1,this.1],this.2⟩
theorem txt_inj {x y:Exe} (X:Big x) (Y:Big y) (e:txtX x=txtX y):x=y:=by
  have nosep:∀ {x:Exe},Big x→∀ w ∈ wsX x,(32:UInt8) ∉ w∧w ≠ []:=fun {x} b w hw=>by
    rcases List.mem_append.1 hw with hw | hw
    · obtain ⟨i,hi,rfl⟩:=List.mem_map.1 hw
      have k:=b.key (List.mem_range.1 hi)
      refine ⟨fun h=>?_,jc_ne k (by simp [keyE])⟩
      rcases jc_chr k 32 h with h | h | h <;> simp at h
    · obtain ⟨l,hl,rfl⟩:=List.mem_map.1 hw
      refine ⟨fun h=>?_,by simp [wordC]⟩
      rcases List.mem_cons.1 h with h | h
      · simp at h
      · rcases jc_chr (b.co l hl) 32 h with h | h | h <;> simp at h
  have nx:=nosep X
  have ny:=nosep Y
  have hw:wsX x=wsX y:=by
    unfold txtX at e
    by_cases h1:wsX x=[]
    · by_cases h2:wsX y=[]
      · rw [h1,h2]
      · rw [h1] at e
        exact absurd e.symm (by have:=jn_ne h2 fun w hw=>(ny w hw).2;simpa [jn,Lib.join] using this)
    · by_cases h2:wsX y=[]
      · rw [h2] at e
        exact absurd e (by have:=jn_ne h1 fun w hw=>(nx w hw).2;simpa [jn,Lib.join] using this)
      · exact js_inj (s:=32) (fun w hw=>(nx w hw).1) (fun w hw=>(ny w hw).1) h1 h2 e
  have pe:∀ {x:Exe},Big x→∀ w ∈ wsE x x.evs.length,w.head? ≠ some 99:=fun {x} b w hw h=>by
    obtain ⟨i,hi,rfl⟩:=List.mem_map.1 hw
    have k:=b.key (List.mem_range.1 hi)
    have hm:(99:UInt8) ∈ wordE (evA x.evs i) (intA x.rf i):=List.mem_of_mem_head? (by rw [h];rfl)
    rcases jc_chr k 99 hm with h | h | h <;> simp at h
  have pc:∀ {x:Exe},∀ w ∈ x.co.map wordC,¬ w.head? ≠ some 99:=fun {x} w hw h=>by
    obtain ⟨l,hl,rfl⟩:=List.mem_map.1 hw
    exact h rfl
  obtain ⟨e1,e2⟩:=app_split (P:=fun w=>w.head? ≠ some 99) (pe X) (pe Y) pc pc hw
  have hn:x.evs.length=y.evs.length:=by
    have:=congrArg List.length e1
    simpa [wsE] using this
  have hi:∀ i,i < x.evs.length→keyE (evA x.evs i) (intA x.rf i)=keyE (evA y.evs i) (intA y.rf i):=fun i hi=>by
    have h1:(wsE x x.evs.length)[i]?=(wsE y y.evs.length)[i]?:=by rw [e1]
    unfold wsE at h1
    rw [List.getElem?_map,List.getElem?_map,List.getElem?_range hi,List.getElem?_range (by omega)] at h1
    simp only [Option.map_some,Option.some.injEq] at h1
    exact jc_inj (X.key hi) (Y.key (by omega)) (by simp [keyE]) (by simp [keyE]) h1
  have h1:x.evs=y.evs:=List.ext_getElem hn fun i h1 h2=>by
    have:=hi i h1
    rw [evA_of h1,evA_of h2] at this
    simp only [keyE,List.cons.injEq,and_true] at this
    obtain ⟨a1,a2,a3,a4,a5,a6,_⟩:=this
    cases hx:x.evs[i]
    cases hy:y.evs[i]
    rw [hx,hy] at a1 a2 a3 a4 a5 a6
    simp only at a1 a2 a3 a4 a5 a6
    subst a1 a2 a3 a4 a5 a6
    rfl
  have h2:x.rf=y.rf:=List.ext_getElem (by rw [X.len,Y.len,hn]) fun i h1 h2=>by
    have:=hi i (by rw [← X.len];exact h1)
    rw [intA_of h1,intA_of h2] at this
    simp only [keyE,List.cons.injEq,and_true] at this
    exact this.2.2.2.2.2.2
  have h3:x.co=y.co:=by
    have:∀ {a b:List (List Int)},(∀ l ∈ a,(∀ i ∈ l,I64 i)∧l ≠ [])→(∀ l ∈ b,(∀ i ∈ l,I64 i)∧l ≠ [])→a.map wordC=b.map wordC→a=b:=by
      intro a
      induction a with
      | nil=>intro b _ _ e;cases b <;> simp at e ⊢
      | cons p a ih =>
        intro b ha hb e
        cases b with
        | nil=>simp at e
        | cons q b =>
          simp only [List.map_cons,List.cons.injEq,wordC,true_and] at e
          have hp:=ha p List.mem_cons_self
          have hq:=hb q List.mem_cons_self
          rw [jc_inj hp.1 hq.1 hp.2 hq.2 e.1,ih (fun l hl=>ha l (List.mem_cons_of_mem _ hl)) (fun l hl=>hb l (List.mem_cons_of_mem _ hl)) e.2]
    exact this (fun l hl=>⟨X.co l hl,X.ne l hl⟩) (fun l hl=>⟨Y.co l hl,Y.ne l hl⟩) e2
  cases x;cases y
  simp only at h1 h2 h3
  subst h1 h2 h3
  rfl
end Go.Jq
namespace Go.Jq
variable {G:Nat→SFunc} {h:AH} {R:Value→AH→Prop}
structure TextG (G:Nat→SFunc):Prop where
  g41:G 41=c41
  g85:G 85=c85
  g153:G 153=c153
  n154:(G 154).body=.native 3
  n86:(G 86).body=.native 3
  n87:(G 87).body=.native 2
theorem Itoa_q (g:TextG G) {n:Int} (hn:I64 n) (k:R (.string ⟨(itoaF n).toArray⟩) h):WC G 85 [.int .i64 n] h R:=by
  refine WC_enter g.g85 rfl ?_
  simp -implicitDefEqProofs [c85,c85_body,c85_0,c85_1]
  refine WC_enter g.g153 rfl ?_
  simp -implicitDefEqProofs [c153,c153_body,c153_0,c153_1]
  refine WC_native g.n154 (v:=.string ⟨(itoaF n).toArray⟩) ?_ ?_
  · simp only [natOf];rw [if_pos ⟨trivial,hn⟩]
  · simp -implicitDefEqProofs
    exact k
theorem js_len {s:UInt8} {B:Nat}:∀ {ws:List (List UInt8)},(∀ w ∈ ws,w.length≤B)→(js s ws).length≤ws.length * (B+1)
  | [],_=>by simp [js,Lib.join]
  | [a],h=>by rw [js_one];have:=h a (by simp);simp;omega
  | a :: b :: r, h => by
    rw [js_cons,List.length_append,List.length_cons]
    have h1:=h a (by simp)
    have h2:=js_len (s:=s) (ws:=b::r) fun w hw=>h w (List.mem_cons_of_mem _ hw)
    rw [List.length_cons (as:=b::r),Nat.add_mul,Nat.one_mul]
    omega
theorem jc_len {l:List Int}:(jc l).length≤l.length * 23:=by
  have:=js_len (s:=44) (B:=22) (ws:=l.map itoaF) fun w hw=>by
    obtain ⟨x,_,rfl⟩:=List.mem_map.1 hw
    exact itoaF_len
  simpa [jc] using this
theorem join_js {s:UInt8} {ws:List (List UInt8)}:joinOf (ws.map fun w=>(⟨w.toArray⟩:ByteArray)) ⟨#[s]⟩=js s ws:=by
  unfold joinOf js
  rw [List.map_map]
  congr 1
  conv=>rhs;rw [← List.map_id ws]
  exact List.map_congr_left fun w _=>by simp
theorem wsE_succ {x:Exe} {n:Nat}:wsE x (n+1)=wsE x n++[wordE (evA x.evs n) (intA x.rf n)]:=by simp [wsE,List.range_succ]
theorem wsE_len {x:Exe} {n:Nat}:(wsE x n).length=n:=by simp [wsE]
def preC (l:List Int):List UInt8:=l.flatMap fun x=>itoaF x++[44]
theorem preC_len {l:List Int}:(preC l).length≤l.length * 23:=by
  induction l with
  | nil=>simp [preC]
  | cons a l ih =>
    unfold preC at ih ⊢
    rw [List.flatMap_cons,List.length_append,List.length_append,List.length_cons (as:=l),Nat.add_mul,Nat.one_mul]
    have:=itoaF_len (n:=a)
    have e:([44]:List UInt8).length=1:=rfl
    omega
theorem preC_succ {l:List Int} {k:Nat} (h:k < l.length):preC (l.take (k+1))=preC (l.take k)++(itoaF l[k]++[44]):=by
  unfold preC
  rw [List.take_succ_eq_append_getElem h,List.flatMap_append]
  simp
theorem wordE_eq {e:Ev6} {f:Int}:wordE e f=preC [e.t,e.i,e.kind,e.loc]++itoaF e.r++[44]++itoaF e.w++[44]++itoaF f:=by
  unfold wordE keyE jc preC
  simp only [List.map_cons,List.map_nil,js_cons,js_one]
  simp
theorem wordE_len {e:Ev6} {f:Int}:(wordE e f).length≤161:=by
  have:=jc_len (l:=keyE e f)
  simpa [wordE,keyE] using this
def inv41a (h2:AH) (x:Exe) (u0:Value) (mm:Nat) (F:Fr) (hh:AH):Prop :=
  ∃ (i:Nat) (u:Value),mm=x.evs.length - i∧i≤x.evs.length∧Ext h2 hh∧SlG 1 hh h2.next (wsE x i).length ((wsE x i).flatMap strC) u∧(wsE x i=[]→u=.slice none 0 0)∧F=[(1,ptrV (h2.next - 1)),(3,u),(16,u0),(17,.int .i64 x.evs.length),(18,.int .i64 i)]
def inv41b (h2:AH) (hn b5:Nat) (l:List Int) (f:Int) (s:Value) (u0:Value) (n i:Nat) (u:Value) (mm:Nat) (F:Fr) (hh:AH):Prop :=
  ∃ k:Nat,mm=4 - k∧k≤4∧hh=h2∧F=[(1,ptrV hn),(3,u),(5,ptrV b5),(6,.int .i64 f),(7,.string ⟨(preC (l.take k)).toArray⟩),(16,u0),(17,.int .i64 n),(18,.int .i64 i),(41,s),(42,.int .i64 4),(43,.int .i64 k)]
def wsC (x:Exe) (j:Nat):List (List UInt8):=wsE x x.evs.length++(x.co.take j).map wordC
theorem wsC_succ {x:Exe} {j:Nat} (h:j < x.co.length):wsC x (j+1)=wsC x j++[wordC x.co[j]]:=by
  unfold wsC
  rw [List.take_succ_eq_append_getElem h,List.map_append,List.append_assoc]
  rfl
def inv41c (h2:AH) (x:Exe) (u0:Value) (mm:Nat) (F:Fr) (hh:AH):Prop :=
  ∃ (j:Nat) (u:Value),mm=x.co.length - j∧j≤x.co.length∧Ext h2 hh∧SlG 1 hh h2.next (wsC x j).length ((wsC x j).flatMap strC) u∧(wsC x j=[]→u=.slice none 0 0)∧F=[(3,u),(72,u0),(73,.int .i64 x.co.length),(74,.int .i64 j)]
def inv41d (h2:AH) (r:List Int) (u u0 r0:Value) (n j:Nat) (mm:Nat) (F:Fr) (hh:AH):Prop :=
  ∃ (q:Nat) (w:Value),mm=r.length - q∧q≤r.length∧Ext h2 hh∧SlG 1 hh h2.next q (((r.take q).map itoaF).flatMap strC) w∧F=[(3,u),(12,w),(72,u0),(73,.int .i64 n),(74,.int .i64 j),(78,r0),(79,.int .i64 r.length),(80,.int .i64 q)]
set_option maxHeartbeats 8000000 in
theorem Text_q (g:TextG G) {x:Exe} {ev rv cv:Value} (X:ExeV h x ev rv cv) (B:Big x) (S:Sm x) (k:R (.string ⟨(txtX x).toArray⟩) h):WC G 41 [.agg #[ev,rv,cv]] h R:=by
  obtain ⟨a1,a2,rfl⟩:=X.evs.len
  obtain ⟨a3,a4,rfl⟩:=X.rf.len
  obtain ⟨a5,a6,rfl⟩:=X.co.len
  have s1:=S.evs
  have s2:=S.co
  refine WC_pure (WC_enter g.g41 rfl ?_)
  simp -implicitDefEqProofs [c41,c41_body,c41_0,c41_1,c41_2]
  obtain ⟨h2,eh2⟩:∃ h2,h2=h.lays [.cells [.slice a1 x.evs.length a2,.slice a3 x.rf.length a4,.slice a5 x.co.length a6] false false]:=⟨_,rfl⟩
  have n2:h2.next=h.next+1:=by subst eh2;simp
  have x2:Ext h h2:=by subst eh2;exact .lays
  have g2:h2.get h.next=.cells [.slice a1 x.evs.length a2,.slice a3 x.rf.length a4,.slice a5 x.co.length a6] false false:=by subst eh2;simp
  rw [← eh2]
  clear eh2
  refine W_loop (inv41a h2 x (.slice a1 x.evs.length a2)) x.evs.length ⟨0,.slice none 0 0,rfl,by omega,.refl _,by simpa [wsE] using SlG.nil,fun _=>rfl,by rw [n2];rfl⟩ ?_
  rintro mm F hh ⟨i,u,rfl,hi,y,su,un,rfl⟩
  have e0:h2.next - 1=h.next:=by omega
  rw [e0]
  have gp:=(y.get h.next (by omega)).trans g2
  simp -implicitDefEqProofs [c41_17,c41_3]
  by_cases h1:i < x.evs.length
  · have w1:IntKind.i64.wrap ((i:Int)+1)=((i+1:Nat):Int):=by rw [wrap64 (by omega)];rfl
    have XE:=X.evs.ext (x2.trans y)
    have XF:=X.rf.ext (x2.trans y)
    obtain ⟨b,o,sp,c0,gg,ro,rfl,hb,hg,hle,hrow,_⟩:=XE.rd Ev6.c_length h1
    have h1f:i < x.rf.length:=by rw [B.len];exact h1
    obtain ⟨b',o',sp',c0',gg',ro',rfl,hb',hg',_,_,r2⟩:=XF.rd intC_length h1f
    have r2:=r2 0 Nat.one_pos
    simp only [intC,Nat.add_zero,List.getElem?_cons_zero,Nat.mul_one] at r2
    have z6:zi 6=[.int .i64 0,.int .i64 0,.int .i64 0,.int .i64 0,.int .i64 0,.int .i64 0]:=rfl
    have z4:zi 4=[.int .i64 0,.int .i64 0,.int .i64 0,.int .i64 0]:=rfl
    have ee:evA x.evs i=x.evs[i]:=evA_of h1
    have ef:intA x.rf i=x.rf[i]:=intA_of h1f
    have ky:=B.key h1
    have hws:=wsE_succ (x:=x) (n:=i)
    have hwl:=wordE_len (e:=evA x.evs i) (f:=intA x.rf i)
    have hwe:=wordE_eq (e:=evA x.evs i) (f:=intA x.rf i)
    rw [ee,ef] at ky hws hwl hwe
    generalize x.evs[i]=e at *
    generalize x.rf[i]=f at *
    have hpn:h.next < hh.next:=by have:=y.next;omega
    simp -implicitDefEqProofs [h1,c41_4,hg,hle,hrow,Ev6.c,z6,splice,c41_5,c41_6,ptrV,AH.lays_lt hpn,gp,h1f,c41_7,AH.lays_lt hb',hg',r2,c41_8,c41_9,z4]
    obtain ⟨h3,eh3⟩:∃ h3,h3=hh.lays [.cells [.int .i64 e.t,.int .i64 e.i,.int .i64 e.kind,.int .i64 e.loc,.int .i64 e.r,.int .i64 e.w] false false,.cells [.int .i64 e.t,.int .i64 e.i,.int .i64 e.kind,.int .i64 e.loc] false false]:=⟨_,rfl⟩
    have y3:Ext hh h3:=by subst eh3;exact .lays
    have n3:h3.next=hh.next+2:=by subst eh3;simp
    have g5:h3.get hh.next=.cells [.int .i64 e.t,.int .i64 e.i,.int .i64 e.kind,.int .i64 e.loc,.int .i64 e.r,.int .i64 e.w] false false:=by subst eh3;simp
    have g41:h3.get (hh.next+1)=.cells [.int .i64 e.t,.int .i64 e.i,.int .i64 e.kind,.int .i64 e.loc] false false:=by subst eh3;simp
    rw [← eh3]
    clear eh3
    refine W_loop (inv41b h3 h.next hh.next [e.t,e.i,e.kind,e.loc] f (.slice (some ⟨hh.next+1,0,none⟩) 4 4) (.slice (some ⟨b,o,sp⟩) x.evs.length a2) x.evs.length i u) 4 ⟨0,rfl,by omega,rfl,by simp [ptrV,preC]⟩ ?_
    rintro mm F hh4 ⟨q,rfl,hq,rfl,rfl⟩
    simp -implicitDefEqProofs [c41_14,c41_10,ptrV]
    by_cases q4:q < 4
    · have q4':(q:Int) < 4:=by omega
      have wq:IntKind.i64.wrap ((q:Int)+1)=((q+1:Nat):Int):=by rw [wrap64 (by omega)];rfl
      have hps:=preC_succ (l:=[e.t,e.i,e.kind,e.loc]) (k:=q) (by simpa using q4)
      have hpl:=preC_len (l:=[e.t,e.i,e.kind,e.loc].take q)
      have hnI:I64 ([e.t,e.i,e.kind,e.loc][q]'(by simpa using q4)):=ky _ (by
        have:=List.getElem_mem (l:=[e.t,e.i,e.kind,e.loc]) (n:=q) (by simpa using q4)
        simp only [keyE,List.mem_cons,List.not_mem_nil,or_false] at this ⊢
        omega)
      have gq:([.int .i64 e.t,.int .i64 e.i,.int .i64 e.kind,.int .i64 e.loc]:List Value)[q]?=some (.int .i64 ([e.t,e.i,e.kind,e.loc][q]'(by simpa using q4))):=by
        match q,q4 with
        | 0,_=>rfl
        | 1,_=>rfl
        | 2,_=>rfl
        | 3,_=>rfl
      generalize [e.t,e.i,e.kind,e.loc][q]'(by simpa using q4)=n at *
      have il:=itoaF_len (n:=n)
      have s1:sstr .add ⟨(itoaF n).toArray⟩ ⟨#[44]⟩=some (.string ⟨(itoaF n++[44]).toArray⟩):=sstr_l (b:=[44]) (by simp;omega)
      have s2:sstr .add ⟨(preC ([e.t,e.i,e.kind,e.loc].take q)).toArray⟩ ⟨(itoaF n++[44]).toArray⟩=some (.string ⟨(preC ([e.t,e.i,e.kind,e.loc].take (q+1))).toArray⟩):=by
        rw [hps];exact sstr_l (by simp at hpl ⊢;omega)
      obtain ⟨C,g41,gq⟩:∃ C,hh4.get (hh.next+1)=.cells C false false∧C[q]?=some (.int .i64 n):=⟨_,g41,gq⟩
      simp -implicitDefEqProofs [q4,q4',c41_11,g41,gq,c41_12]
      refine Itoa_q g hnI ?_
      simp -implicitDefEqProofs [s1,s2,c41_13,wq]
      exact ⟨4 - (q+1),by omega,q+1,rfl,q4,rfl,rfl⟩
    · have:q=4:=by omega
      subst this
      have hpl:=preC_len (l:=[e.t,e.i,e.kind,e.loc])
      have l1:=itoaF_len (n:=e.r)
      have l2:=itoaF_len (n:=e.w)
      have l3:=itoaF_len (n:=f)
      have k1:I64 e.r:=ky _ (by simp [keyE])
      have k2:I64 e.w:=ky _ (by simp [keyE])
      have k3:I64 f:=ky _ (by simp [keyE])
      have et:[e.t,e.i,e.kind,e.loc].take 4=[e.t,e.i,e.kind,e.loc]:=rfl
      generalize hP:preC [e.t,e.i,e.kind,e.loc]=P at *
      simp only [List.length_cons,List.length_nil] at hpl
      have t1:sstr .add ⟨P.toArray⟩ ⟨(itoaF e.r).toArray⟩=some (.string ⟨(P++itoaF e.r).toArray⟩):=sstr_l (by omega)
      have t2:sstr .add ⟨(P++itoaF e.r).toArray⟩ ⟨#[44]⟩=some (.string ⟨(P++itoaF e.r++[44]).toArray⟩):=sstr_l (b:=[44]) (by simp;omega)
      have t3:sstr .add ⟨(P++itoaF e.r++[44]).toArray⟩ ⟨(itoaF e.w).toArray⟩=some (.string ⟨(P++itoaF e.r++[44]++itoaF e.w).toArray⟩):=sstr_l (by simp;omega)
      have t4:sstr .add ⟨(P++itoaF e.r++[44]++itoaF e.w).toArray⟩ ⟨#[44]⟩=some (.string ⟨(P++itoaF e.r++[44]++itoaF e.w++[44]).toArray⟩):=sstr_l (b:=[44]) (by simp;omega)
      have t5:sstr .add ⟨(P++itoaF e.r++[44]++itoaF e.w++[44]).toArray⟩ ⟨(itoaF f).toArray⟩=some (.string ⟨(wordE e f).toArray⟩):=by
        rw [hwe];exact sstr_l (by simp;omega)
      generalize P++itoaF e.r++[44]++itoaF e.w++[44]=P4 at *
      generalize P++itoaF e.r++[44]++itoaF e.w=P3 at *
      generalize P++itoaF e.r++[44]=P2 at *
      generalize P++itoaF e.r=P1 at *
      simp -implicitDefEqProofs [c41_15,c41_15b,g5,et,hP]
      refine WC_native g.n86 (v:=.string ⟨(itoaF e.r).toArray⟩) (by simp only [natOf];rw [if_pos ⟨trivial,k1⟩]) ?_
      simp -implicitDefEqProofs [t1,t2,g5]
      refine WC_native g.n86 (v:=.string ⟨(itoaF e.w).toArray⟩) (by simp only [natOf];rw [if_pos ⟨trivial,k2⟩]) ?_
      simp -implicitDefEqProofs [t3,t4,g5]
      refine Itoa_q g k3 ?_
      simp -implicitDefEqProofs [t5,splice,g5]
      have hx4:=(y.trans y3).next
      have hub:∀ {q},blkOf u=some q→h2.next≤q∧q < hh.next:=fun e=>su.blk e
      refine SlG.app ((su.ext y3).ext .lays) (ec:=strC (wordE e f)) (o:=0) (by simp [AH.load,strC]) (by omega) (by rw [wsE_len];omega) (by simp;omega) fun h' s' hn' hg'=>?_
      have y':Ext h2 h':=⟨by simp at hn';omega,fun q hq=>by rw [hg' q (by simp;omega) fun e=>by have:=hub e;omega,AH.lays_lt (by omega)];exact (y.trans y3).get q hq⟩
      simp -implicitDefEqProofs [c41_16,w1]
      refine ⟨x.evs.length - (i+1),by omega,i+1,.slice (some ⟨hh4.next+1,0,some 1⟩) ((wsE x i).length+1) ((wsE x i).length+1),rfl,h1,y',?_,fun e=>by rw [hws] at e;simp at e,by simp [ptrV,e0]⟩
      rw [hws,List.length_append,List.flatMap_append]
      simpa using s'
  · have ei:i=x.evs.length:=by omega
    subst ei
    simp -implicitDefEqProofs [h1,c41_18,ptrV,gp]
    refine W_loop (inv41c h2 x (.slice a5 x.co.length a6)) x.co.length ⟨0,u,by omega,by omega,y,by simpa [wsC] using su,by simpa [wsC] using un,rfl⟩ ?_
    clear su gp y h1 hi un
    rintro mm F hh ⟨j,u,rfl,hj,y,su,un,rfl⟩
    simp -implicitDefEqProofs [c41_30,c41_19]
    by_cases h1:j < x.co.length
    · have w1:IntKind.i64.wrap ((j:Int)+1)=((j+1:Nat):Int):=by rw [wrap64 (by omega)];rfl
      have XC:=X.co.ext (x2.trans y)
      obtain ⟨b,o,sp,c0,gg,ro,rv,rfl,hb,hg,hr,sr⟩:=XC.at h1
      have hr64:=S.rows _ (List.getElem_mem h1)
      have hI:=B.co _ (List.getElem_mem h1)
      have hne:=B.ne _ (List.getElem_mem h1)
      have hws:=wsC_succ h1
      generalize x.co[j]=r at *
      obtain ⟨r1,r2,rfl⟩:=sr.view.len
      simp -implicitDefEqProofs [h1,c41_20,hg,hr,c41_21,c41_22]
      refine W_loop (inv41d hh r u (.slice (some ⟨b,o,sp⟩) x.co.length a6) (.slice r1 r.length r2) x.co.length j) r.length ⟨0,.slice none 0 0,by omega,by omega,.refl _,SlG.nil,rfl⟩ ?_
      rintro mm F h4 ⟨q,w,rfl,hq,z,sw,rfl⟩
      simp -implicitDefEqProofs [c41_27,c41_23]
      by_cases q1:q < r.length
      · have wq:IntKind.i64.wrap ((q:Int)+1)=((q+1:Nat):Int):=by rw [wrap64 (by omega)];rfl
        obtain ⟨b',o',sp',c0',gg',ro',rfl,hb',hg',_,_,rq⟩:=(sr.view.ext z).rd intC_length q1
        have rq:=rq 0 Nat.one_pos
        simp only [intC,Nat.add_zero,List.getElem?_cons_zero,Nat.mul_one] at rq
        have hIq:=hI _ (List.getElem_mem q1)
        have hts:((r.take (q+1)).map itoaF).flatMap strC=((r.take q).map itoaF).flatMap strC++strC (itoaF r[q]):=by
          rw [List.take_succ_eq_append_getElem q1,List.map_append,List.flatMap_append];simp
        generalize r[q]=n at *
        simp -implicitDefEqProofs [q1,c41_24,hg',rq,c41_25]
        refine Itoa_q g hIq ?_
        simp -implicitDefEqProofs [splice]
        have hwb:∀ {t},blkOf w=some t→hh.next≤t∧t < h4.next:=fun e=>sw.blk e
        have hz:=z.next
        refine SlG.app (sw.ext .lays) (ec:=strC (itoaF n)) (o:=0) (by simp [AH.load,strC]) (by omega) (by omega) (by simp;omega) fun h' s' hn' hg'=>?_
        have z':Ext hh h':=⟨by simp at hn';omega,fun t ht=>by rw [hg' t (by simp;omega) fun e=>by have:=hwb e;omega,AH.lays_lt (by omega)];exact z.get t ht⟩
        simp -implicitDefEqProofs [c41_26,wq]
        refine ⟨r.length - (q+1),by omega,q+1,.slice (some ⟨h4.next+1,0,some 1⟩) (q+1) (q+1),rfl,q1,z',?_,rfl⟩
        rw [hts]
        simpa using s'
      · have eq:q=r.length:=by omega
        subst eq
        rw [List.take_length] at sw
        have hrl:0 < r.length:=List.length_pos_iff.2 hne
        have hjl:=jc_len (l:=r)
        have hz:=z.next
        have hy:=y.next
        rcases sw.2 with ⟨e,_⟩ | ⟨bw,w1',w2,w3,rfl⟩
        · omega
        have hl:h4.load bw 0 r.length=some ((r.map itoaF).flatMap strC):=by
          have:=sw.1
          exact load_all w3 (by omega)
        have hj:joinOf ((r.map itoaF).map fun w=>(⟨w.toArray⟩:ByteArray)) ⟨#[44]⟩=jc r:=join_js
        have sa:sstr .add ⟨#[99]⟩ ⟨(jc r).toArray⟩=some (.string ⟨(wordC r).toArray⟩):=sstr_l (a:=[99]) (by simp;omega)
        simp -implicitDefEqProofs [q1,c41_28]
        refine WC_native g.n87 (v:=.string ⟨(jc r).toArray⟩) ?_ ?_
        · simp only [natOf]
          rw [hl]
          simp only [str_words,hj]
          rw [if_pos (by omega)]
        simp -implicitDefEqProofs [sa,splice]
        have hub:∀ {t},blkOf u=some t→h2.next≤t∧t < hh.next:=fun e=>su.blk e
        have hcl:((x.co.take j).map wordC).length≤64:=by simp;omega
        refine SlG.app ((su.ext z).ext .lays) (ec:=strC (wordC r)) (o:=0) (by simp [AH.load,strC]) (by omega) (by unfold wsC;rw [List.length_append,wsE_len];omega) (by simp;omega) fun h' s' hn' hg'=>?_
        have y':Ext h2 h':=⟨by simp at hn';omega,fun t ht=>by rw [hg' t (by simp;omega) fun e=>by have:=hub e;omega,AH.lays_lt (by omega)];exact (y.trans z).get t ht⟩
        simp -implicitDefEqProofs [c41_29,w1]
        refine ⟨x.co.length - (j+1),by omega,j+1,.slice (some ⟨h4.next+1,0,some 1⟩) ((wsC x j).length+1) ((wsC x j).length+1),rfl,h1,y',?_,fun e=>by rw [hws] at e;simp at e,rfl⟩
        rw [hws,List.length_append,List.flatMap_append]
        simpa using s'
    · have ej:wsC x j=wsX x:=by unfold wsC wsX;rw [List.take_of_length_le (by omega)]
      rw [ej] at su un
      have hwn:(wsX x).length≤124:=by unfold wsX;rw [List.length_append,wsE_len,List.length_map];omega
      have hwl:∀ w ∈ wsX x,w.length≤1500:=fun w hw=>by
        rcases List.mem_append.1 hw with hw | hw
        · obtain ⟨i,_,rfl⟩:=List.mem_map.1 hw
          have:=wordE_len (e:=evA x.evs i) (f:=intA x.rf i)
          omega
        · obtain ⟨r,hr,rfl⟩:=List.mem_map.1 hw
          have:=jc_len (l:=r)
          have:=S.rows r hr
          unfold wordC
          rw [List.length_cons]
          omega
      have hjl:=js_len (s:=32) hwl
      have hj:joinOf ((wsX x).map fun w=>(⟨w.toArray⟩:ByteArray)) ⟨#[32]⟩=txtX x:=join_js
      have hjl':(txtX x).length≤1000000:=by
        have:(js 32 (wsX x)).length≤124 * 1501:=Nat.le_trans hjl (Nat.mul_le_mul_right _ hwn)
        show (js 32 (wsX x)).length≤_
        omega
      have fin:Ext h hh:=x2.trans y
      simp -implicitDefEqProofs [h1,c41_31]
      rcases su.2 with ⟨e,rfl⟩ | ⟨bw,w1',w2,w3,rfl⟩
      · have:wsX x=[]:=List.length_eq_zero_iff.1 e
        have e2:txtX x=[]:=by unfold txtX;rw [this];rfl
        rw [e2] at k
        refine WC_native g.n87 (v:=.string ⟨#[]⟩) rfl ?_
        simp -implicitDefEqProofs
        exact ⟨fin,k⟩
      · by_cases e:wsX x=[]
        · have:=un e
          simp at this
        · have hlp:0 < (wsX x).length:=List.length_pos_iff.2 e
          have hl:hh.load bw 0 (wsX x).length=some ((wsX x).flatMap strC):=by
            have:=su.1
            exact load_all w3 (by omega)
          refine WC_native g.n87 (v:=.string ⟨(txtX x).toArray⟩) ?_ ?_
          · simp only [natOf]
            rw [hl]
            simp only [str_words,hj]
            rw [if_pos (by omega)]
          · simp -implicitDefEqProofs
            exact ⟨fin,k⟩
end Go.Jq
namespace Go.Jq
variable {G:Nat→SFunc} {h h0 h1:AH} {R:Value→AH→Prop}
structure OrdLG (G:Nat→SFunc):Prop where
  all:AllG G
  cmp:CompG G
  dc:CmpG G
  lq:LessQ G
  tg:TextG G
  g334:G 334=c334
  aw:∀ (h:AH) (R:Value→AH→Prop),(∀ h1,Ext h h1→R (.bool true) h1)→WC G 23 [] h R
theorem OutS.rds {L:List Exe} {a:Option Addr} {c:Nat} (o:OutS h L (.slice a L.length c)) (hn:0 < L.length):∃ b o' sp c0 g ro,a=some ⟨b,o',sp⟩∧b < h.next∧h.get b=.cells c0 g ro ∧
    ∀ i (hi:i < L.length),o'+i * 3+3≤c0.length∧∃ ev rv cv,(c0.drop (o'+i * 3)).take 3=[ev,rv,cv]∧ExeV h L[i] ev rv cv:=by
  obtain ⟨o1,ws,o2,o3⟩:=o
  have hl:=o3.len
  have o2':SlV 3 h ws.length (ws.flatMap c3) (.slice a ws.length c):=by rw [← hl];exact o2.x.view
  obtain ⟨b,o',sp,c0,g,ro,ea,hb,hg,hr⟩:=o2'.rds (f:=c3) (fun _=>rfl) (by omega)
  refine ⟨b,o',sp,c0,g,ro,ea,hb,hg,fun i hi=>?_⟩
  obtain ⟨hw,e⟩:=o3.at hi
  obtain ⟨r1,r2,_⟩:=hr i hw
  exact ⟨r1,_,_,_,r2,e⟩
theorem pick_lt {a:Int} {n:Nat} (hn:0 < n):∃ d:Nat,(iand .i64 a 65535).tmod (n:Int)=d∧d < n:=by
  have hb:=iand_bound (a:=a) (m:=65535) (by omega) (by omega)
  obtain ⟨d,hd⟩:=Int.eq_ofNat_of_zero_le (Int.tmod_nonneg (n:Int) hb.1)
  exact ⟨d,hd,by have:=Int.tmod_lt_of_pos (iand .i64 a 65535) (by omega:(0:Int) < n);omega⟩
theorem PrgOk.vok {most:Nat} {p:Prg} (o:PrgOk most p):∀ l ∈ p.ths,NF.VOk l:=fun l hl=>by
  have:=o.ok l hl
  have hn:=o.locs_len
  refine ⟨by omega,fun i hi=>⟨this.1.val i hi,?_⟩⟩
  have oi:=this.1.ok i hi
  unfold iOk plP at oi
  unfold NF.N64
  rcases oi with q | q | q | q | q | q <;> omega
theorem Shp.big {nl:Nat} {x:Exe} (s:Shp nl x) (m:Sm x) (e:NF.EsOk x.evs):Big x:=by
  have he:=m.evs
  refine ⟨fun v hv=>?_,fun f hf=>?_,fun l hl i hi=>?_,fun l hl h=>?_,s.rf⟩
  · have:=e v hv
    unfold NF.EOk NF.N64 at this
    unfold I64
    omega
  · have:=s.rfo f hf
    unfold I64;omega
  · have:=s.co l hl i hi
    unfold I64;omega
  · have:=s.ne l hl
    rw [h] at this
    simp at this
theorem sstr_eq {a b:List UInt8}:sstr .eql ⟨a.toArray⟩ ⟨b.toArray⟩=some (.bool (a == b)):=by
  have hl:∀ l:List UInt8,(⟨l.toArray⟩:ByteArray).toList=l:=fun l=>by
    rw [ByteArray.toList_eq]
  unfold sstr
  rw [hl,hl]
set_option maxHeartbeats 8000000 in
theorem ExecOrders_spec (g:OrdLG G) {lv:Value} {l:List Int} {i k j:Int} (s:SlV 1 h l.length (l.flatMap intC) lv) (hl:l.length≤9223372036854775807) (kk:∀ h1,R (.bool true) h1):WC G 334 [lv,.int .i64 i,.int .i64 k,.int .i64 j] h R:=by
  refine WC_enter g.g334 rfl ?_
  simp -implicitDefEqProofs [c334,c334_body,c334_0,c334_1]
  refine Of_spec g.cmp (most:=4) (by omega) s hl fun h1 p lv iv tv x1 V PO=>?_
  obtain ⟨hin,hth,hlo⟩:p.init.length=p.locs.length∧p.ths.length≤4∧p.locs.length≤4:=⟨PO.init,by have:=PO.ths;omega,by have:=PO.locs_len;omega⟩
  simp -implicitDefEqProofs [c334_2]
  refine All_d g.all (most:=600) (V.ext .lays) PO.th hin hth hlo (by omega) fun h2 v x2 O=>?_
  have hlen:=all_len (p:=p) (most:=600)
  have hsh:=NF.all_ev (p:=p) (most:=600) hlo hth PO.vok PO.ini
  have hne:=all_ne (most:=600) PO.th hth hlo
  generalize (allM p 600).1=L at *
  generalize (allM p 600).2=ok at *
  obtain ⟨a,c,rfl⟩:=O.len
  by_cases hL:L.length=0
  · have:ok=false:=by cases ok <;> simp_all
    subst this
    simp -implicitDefEqProofs [c334_3,c334_4,hL]
    refine g.aw _ _ fun h3 x3=>?_
    simp -implicitDefEqProofs
    exact kk h3
  · have:ok=true:=hne.2 (by omega)
    subst this
    have hL':¬ (L.length:Int)=0:=by omega
    simp -implicitDefEqProofs [c334_3,hL,hL']
    obtain ⟨b,o',sp,c0,gg,ro,rfl,hb,hg,hr⟩:=O.rds (by omega)
    obtain ⟨d1,e1,q1⟩:=pick_lt (a:=i) (n:=L.length) (by omega)
    obtain ⟨d2,e2,q2⟩:=pick_lt (a:=k) (n:=L.length) (by omega)
    obtain ⟨d3,e3,q3⟩:=pick_lt (a:=j) (n:=L.length) (by omega)
    obtain ⟨l1,xe,xr,xc,t1,X⟩:=hr d1 q1
    obtain ⟨l2,ye,yr,yc,t2,Y⟩:=hr d2 q2
    obtain ⟨l3,ze,zr,zc,t3,Z⟩:=hr d3 q3
    have mx:=O.1 _ (List.getElem_mem q1)
    have my:=O.1 _ (List.getElem_mem q2)
    have mz:=O.1 _ (List.getElem_mem q3)
    have sx:=hsh _ (List.getElem_mem q1)
    have sy:=hsh _ (List.getElem_mem q2)
    have bx:=sx.2.big mx sx.1
    have bY:=sy.2.big my sy.1
    have ox:=mx.ok
    have oy:=my.ok
    have oz:=mz.ok
    have hLn:¬ L=[]:=fun e=>hL (by rw [e];rfl)
    have e12:txtX L[d1]=txtX L[d2] ↔ L[d1]=L[d2]:=⟨fun e=>txt_inj bx bY e,fun e=>by rw [e]⟩
    have oc:=ord_cmp
    have nb0:¬ b=h2.next:=by omega
    have nb1:¬ b=h2.next+1:=by omega
    have nb2:¬ b=h2.next+2:=by omega
    generalize L[d1]=x at *
    generalize L[d2]=y at *
    generalize L[d3]=z at *
    simp -implicitDefEqProofs [c334_5,c334_5b,e1,e2,e3,hg,AH.lays_lt hb,hLn,l1,l2,l3,t1,t2,t3,q1,q2,q3,splice,nb0,nb1,nb2]
    simp -implicitDefEqProofs [c334_6,c334_6b]
    refine Less_q g.lq (X.ext .lays) (Y.ext .lays) ox.evs (by have:=mx.rf;omega) ox.co ox.rows ?_
    simp -implicitDefEqProofs
    refine Less_q g.lq (Y.ext .lays) (X.ext .lays) oy.evs (by have:=my.rf;omega) oy.co oy.rows ?_
    simp -implicitDefEqProofs
    have an:=oc.anti x y
    have sm:=oc.eq x y
    have rx:=oc.refl x
    have tr:=oc.tr x y z
    have X':=X.ext (.lays (L:=[.cells [xe,xr,xc] false false,.cells [ye,yr,yc] false false,.cells [ze,zr,zc] false false]))
    have Y':=Y.ext (.lays (L:=[.cells [xe,xr,xc] false false,.cells [ye,yr,yc] false false,.cells [ze,zr,zc] false false]))
    have Z':=Z.ext (.lays (L:=[.cells [xe,xr,xc] false false,.cells [ye,yr,yc] false false,.cells [ze,zr,zc] false false]))
    obtain ⟨bu,bv,bs,eu,ev,es,hc⟩:∃ bu bv bs:Bool,decide (cmpM x y < 0)=bu∧decide (cmpM y x < 0)=bv∧decide (cmpM x y=0)=bs∧((bu=true∧bv=false∧bs=false) ∨ (bu=false∧bv=true∧bs=false) ∨ (bu=false∧bv=false∧bs=true)):=by
      refine ⟨_,_,_,rfl,rfl,rfl,?_⟩
      rw [an]
      rcases Int.lt_trichotomy (cmpM x y) 0 with q | q | q
      · exact .inl ⟨by simpa using q,by simp;omega,by simp;omega⟩
      · exact .inr (.inr ⟨by simp;omega,by simp;omega,by simpa using q⟩)
      · exact .inr (.inl ⟨by simp;omega,by simp;omega,by simp;omega⟩)
    rw [eu,ev]
    have eq':decide (cmpM x x < 0)=false:=by rw [rx];rfl
    have sq:sstr .eql ⟨(txtX x).toArray⟩ ⟨(txtX y).toArray⟩=some (.bool bs):=by
      have hb:bs=true ↔ x=y:=by
        rw [← es,decide_eq_true_eq]
        exact ⟨sm,fun e=>by rw [← e];exact rx⟩
      rw [sstr_eq]
      congr 2
      cases bs with
      | true =>
        have:=e12.2 (hb.1 rfl)
        simpa using this
      | false =>
        have:¬ txtX x=txtX y:=fun e=>by have:=hb.2 (e12.1 e);simp at this
        simpa using this
    rcases hc with ⟨rfl,rfl,rfl⟩ | ⟨rfl,rfl,rfl⟩ | ⟨rfl,rfl,rfl⟩
    · simp -implicitDefEqProofs [c334_7]
      refine Same_q g.lq X' Y' ox.evs (by have:=mx.rf;omega) ox.co ox.rows ?_
      rw [es]
      simp -implicitDefEqProofs
      refine Less_q g.lq X' X' ox.evs (by have:=mx.rf;omega) ox.co ox.rows ?_
      rw [eq']
      simp -implicitDefEqProofs
      refine Cmp_s g.dc X' Y' ox.evs (by have:=mx.rf;omega) ox.co ox.rows ?_
      simp -implicitDefEqProofs [eu,c334_9,c334_9b]
      refine Less_q g.lq Y' Z' oy.evs (by have:=my.rf;omega) oy.co oy.rows ?_
      cases eyz:decide (cmpM y z < 0) with
      | true =>
        have exz:decide (cmpM x z < 0)=true:=decide_eq_true (tr (of_decide_eq_true eu) (of_decide_eq_true eyz))
        simp -implicitDefEqProofs
        refine Less_q g.lq X' Z' ox.evs (by have:=mx.rf;omega) ox.co ox.rows ?_
        rw [exz]
        simp -implicitDefEqProofs
        refine Text_q g.tg X' bx mx ?_
        simp -implicitDefEqProofs
        refine Text_q g.tg Y' bY my ?_
        simp -implicitDefEqProofs [sq]
        refine Same_q g.lq X' Y' ox.evs (by have:=mx.rf;omega) ox.co ox.rows ?_
        rw [es]
        simp -implicitDefEqProofs
        refine g.aw _ _ fun h3 x3=>?_
        simp -implicitDefEqProofs
        exact kk h3
      | false =>
        simp -implicitDefEqProofs
        refine Text_q g.tg X' bx mx ?_
        simp -implicitDefEqProofs
        refine Text_q g.tg Y' bY my ?_
        simp -implicitDefEqProofs [sq]
        refine Same_q g.lq X' Y' ox.evs (by have:=mx.rf;omega) ox.co ox.rows ?_
        rw [es]
        simp -implicitDefEqProofs
        refine g.aw _ _ fun h3 x3=>?_
        simp -implicitDefEqProofs
        exact kk h3
    · simp -implicitDefEqProofs [c334_7]
      refine Same_q g.lq X' Y' ox.evs (by have:=mx.rf;omega) ox.co ox.rows ?_
      rw [es]
      simp -implicitDefEqProofs
      refine Less_q g.lq X' X' ox.evs (by have:=mx.rf;omega) ox.co ox.rows ?_
      rw [eq']
      simp -implicitDefEqProofs
      refine Cmp_s g.dc X' Y' ox.evs (by have:=mx.rf;omega) ox.co ox.rows ?_
      simp -implicitDefEqProofs [eu,c334_9,c334_9b]
      refine Text_q g.tg X' bx mx ?_
      simp -implicitDefEqProofs
      refine Text_q g.tg Y' bY my ?_
      simp -implicitDefEqProofs [sq]
      refine Same_q g.lq X' Y' ox.evs (by have:=mx.rf;omega) ox.co ox.rows ?_
      rw [es]
      simp -implicitDefEqProofs
      refine g.aw _ _ fun h3 x3=>?_
      simp -implicitDefEqProofs
      exact kk h3
    · simp -implicitDefEqProofs [c334_7]
      refine Same_q g.lq X' Y' ox.evs (by have:=mx.rf;omega) ox.co ox.rows ?_
      rw [es]
      simp -implicitDefEqProofs
      refine Less_q g.lq X' X' ox.evs (by have:=mx.rf;omega) ox.co ox.rows ?_
      rw [eq']
      simp -implicitDefEqProofs
      refine Cmp_s g.dc X' Y' ox.evs (by have:=mx.rf;omega) ox.co ox.rows ?_
      simp -implicitDefEqProofs [eu,c334_9,c334_9b]
      refine Text_q g.tg X' bx mx ?_
      simp -implicitDefEqProofs
      refine Text_q g.tg Y' bY my ?_
      simp -implicitDefEqProofs [sq]
      refine Same_q g.lq X' Y' ox.evs (by have:=mx.rf;omega) ox.co ox.rows ?_
      rw [es]
      simp -implicitDefEqProofs
      refine g.aw _ _ fun h3 x3=>?_
      simp -implicitDefEqProofs
      exact kk h3
end Go.Jq
