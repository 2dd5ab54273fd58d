/- A base: states, operations, code, calls; what the kernel reckons holds. It names no program. Part 5. -/
import Derived.Test.YtimgjgookgenoaaGreatDoorBA3
set_option linter.unusedVariables false
set_option linter.unusedSimpArgs false
set_option linter.unusedSectionVars false
namespace Go.Zw
open Go.RowKit (Below)
open Go.Vw (Nul Shape V SX SO SRes width slimRes packed CallsX)

/-- What renaming does, where it goes through. -/
def NmK (ρ:Nat->(Nat->RR)->RR) (D:Nat->Prop) (ρf:Nat->Nat):Prop:=∀ r f x,ρ r f=x->x≠.bad->D r/\f (ρf r)=x
section
variable {ρ:Nat->(Nat->RR)->RR} {D:Nat->Prop} {ρf:Nat->Nat}
mutual
theorem grenK_inv (hρ:NmK ρ D ρf):∀ (z:Z) {f:Z->RR} {x:RR},renK ρ z f=x->x≠.bad->Z.okR D z/\f (Z.ren ρf z)=x
 | .b x,f,y,h,hb=>⟨trivial,h⟩
 | .i k n,f,y,h,hb=>⟨trivial,h⟩
 | .s x,f,y,h,hb=>⟨trivial,h⟩
 | .nul x,f,y,h,hb=>⟨trivial,h⟩
 | .nil,f,y,h,hb=>⟨trivial,h⟩
 | .any,f,y,h,hb=>⟨trivial,h⟩
 | .sl r o n w,f,y,h,hb=>hρ _ _ _ (show ρ r (λr=>f (.sl r o n w))=y from h) hb
 | .ptr r j,f,y,h,hb=>hρ _ _ _ (show ρ r (λr=>f (.ptr r j))=y from h) hb
 | .mp r,f,y,h,hb=>hρ _ _ _ (show ρ r (λr=>f (.mp r))=y from h) hb
 | .it r,f,y,h,hb=>hρ _ _ _ (show ρ r (λr=>f (.it r))=y from h) hb
 | .yl r,f,y,h,hb=>hρ _ _ _ (show ρ r (λr=>f (.yl r))=y from h) hb
 | .clo i u v,f,y,h,hb=>by
  obtain ⟨h1,h2⟩:=grenKs_inv hρ u (show renKs ρ u (λx=>renKs ρ v λz=>f (.clo i x z))=y from h) hb;obtain ⟨h3,h4⟩:=grenKs_inv hρ v h2 hb;exact ⟨⟨h1,h3⟩,h4⟩
 | .ifc T u,f,y,h,hb=>by
  obtain ⟨h1,h2⟩:=grenK_inv hρ u (show renK ρ u (λx=>f (.ifc T x))=y from h) hb;exact ⟨h1,h2⟩
 | .agg cs,f,y,h,hb=>by
  obtain ⟨h1,h2⟩:=grenKs_inv hρ cs (show renKs ρ cs (λx=>f (.agg x))=y from h) hb;exact ⟨h1,h2⟩
 | .tup cs,f,y,h,hb=>by
  obtain ⟨h1,h2⟩:=grenKs_inv hρ cs (show renKs ρ cs (λx=>f (.tup x))=y from h) hb;exact ⟨h1,h2⟩
theorem grenKs_inv (hρ:NmK ρ D ρf):∀ (zs:List Z) {f:List Z->RR} {x:RR},renKs ρ zs f=x->x≠.bad->Z.oksR D zs/\f (Z.rens ρf zs)=x
 | [],f,y,h,hb=>⟨trivial,h⟩
 | z::zs,f,y,h,hb=>by
  obtain ⟨h1,h2⟩:=grenK_inv hρ z (show renK ρ z (λx=>renKs ρ zs λr=>f (x::r))=y from h) hb;obtain ⟨h3,h4⟩:=grenKs_inv hρ zs h2 hb;exact ⟨⟨h1,h3⟩,h4⟩
end
theorem grensK_inv (hρ:NmK ρ D ρf):∀ (zs:List Z) {f:List Z->RR} {x:RR},rensK ρ zs f=x->x≠.bad->Z.oksR D zs/\f (Z.rens ρf zs)=x
 | [],f,y,h,hb=>⟨trivial,h⟩
 | z::zs,f,y,h,hb=>by
  obtain ⟨h1,h2⟩:=grenK_inv hρ z (show renK ρ z (λx=>rensK ρ zs λr=>f (x::r))=y from h) hb;obtain ⟨h3,h4⟩:=grensK_inv hρ zs h2 hb;exact ⟨⟨h1,h3⟩,h4⟩
theorem grenEs_inv (hρ:NmK ρ D ρf):∀ (es:List (Z × Z × Nat)) {f:List (Z × Z × Nat)->RR} {x:RR},renEs ρ es f=x->x≠.bad->
 (∀ e∈es,Z.okR D e.1/\Z.okR D e.2.1)/\f (es.map λe=>(Z.ren ρf e.1,Z.ren ρf e.2.1,e.2.2))=x
 | [],f,y,h,hb=>⟨λe he=>by simp at he,h⟩
 | (k,v,b)::es,f,y,h,hb=>by
  obtain ⟨h1,h2⟩:=grenK_inv hρ k (show renK ρ k (λk=>renK ρ v λv=>renEs ρ es λl=>f ((k,v,b)::l))=y from h) hb;obtain ⟨h3,h4⟩:=grenK_inv hρ v h2 hb;obtain ⟨h5,h6⟩:=grenEs_inv hρ es h4 hb;refine ⟨λe he=>?_,h6⟩;rcases List.mem_cons.1 he with rfl | he
  . exact ⟨h1,h3⟩
  . exact h5 e he
theorem grenO_inv (hρ:NmK ρ D ρf) {o:ZO} {f:ZO->RR} {x:RR} (h:renO ρ o f=x) (hb:x≠.bad):o.okR D/\f (o.ren ρf)=x:=by
 cases o with
 | ob T fx cs=>exact grensK_inv hρ cs (f:=λcs=>f (.ob T fx cs)) h hb
 | mp es c=>exact grenEs_inv hρ es (f:=λes=>f (.mp es c)) h hb
 | it m a b c=>
  cases m with
  | none=>exact ⟨λr hr=>by simp at hr,h⟩
  | some r=>
   obtain ⟨h1,h2⟩:=hρ _ _ _ (show ρ r (λr=>f (.it (some r) a b c))=x from h) hb;exact ⟨λq hq=>by simp at hq; rw [<- hq]; exact h1,h2⟩
 | lp c σ st=>exact grensK_inv hρ σ (f:=λσ=>f (.lp c σ st)) h hb
end

-- renamings, one behind the other
section
variable {ρ β ρ':Nat->Nat} {p:Nat->Prop}
mutual
theorem ren_back:∀ z:Z,Z.okR (λr=>β (ρ r)=r) z->Z.ren β (Z.ren ρ z)=z
 | .b x,_=>rfl
 | .i k n,_=>rfl
 | .s x,_=>rfl
 | .nul x,_=>rfl
 | .nil,_=>rfl
 | .any,_=>rfl
 | .sl r o n w,h=>by have h:β (ρ r)=r:=h; simp only [Z.ren,h]
 | .ptr r j,h=>by have h:β (ρ r)=r:=h; simp only [Z.ren,h]
 | .mp r,h=>by have h:β (ρ r)=r:=h; simp only [Z.ren,h]
 | .it r,h=>by have h:β (ρ r)=r:=h; simp only [Z.ren,h]
 | .yl r,h=>by have h:β (ρ r)=r:=h; simp only [Z.ren,h]
 | .clo i u v,h=>by simp only [Z.ren,rens_back u h.1,rens_back v h.2]
 | .ifc T u,h=>by simp only [Z.ren,ren_back u h]
 | .agg cs,h=>by simp only [Z.ren,rens_back cs h]
 | .tup cs,h=>by simp only [Z.ren,rens_back cs h]
theorem rens_back:∀ zs:List Z,Z.oksR (λr=>β (ρ r)=r) zs->Z.rens β (Z.rens ρ zs)=zs
 | [],_=>rfl
 | z::zs,h=>by simp only [Z.rens,ren_back z h.1,rens_back zs h.2]
end
mutual
theorem ren_cong:∀ z:Z,Z.okR (λr=>ρ r=ρ' r) z->Z.ren ρ z=Z.ren ρ' z
 | .b x,_=>rfl
 | .i k n,_=>rfl
 | .s x,_=>rfl
 | .nul x,_=>rfl
 | .nil,_=>rfl
 | .any,_=>rfl
 | .sl r o n w,h=>by have h:ρ r=ρ' r:=h; simp only [Z.ren,h]
 | .ptr r j,h=>by have h:ρ r=ρ' r:=h; simp only [Z.ren,h]
 | .mp r,h=>by have h:ρ r=ρ' r:=h; simp only [Z.ren,h]
 | .it r,h=>by have h:ρ r=ρ' r:=h; simp only [Z.ren,h]
 | .yl r,h=>by have h:ρ r=ρ' r:=h; simp only [Z.ren,h]
 | .clo i u v,h=>by simp only [Z.ren,rens_cong u h.1,rens_cong v h.2]
 | .ifc T u,h=>by simp only [Z.ren,ren_cong u h]
 | .agg cs,h=>by simp only [Z.ren,rens_cong cs h]
 | .tup cs,h=>by simp only [Z.ren,rens_cong cs h]
theorem rens_cong:∀ zs:List Z,Z.oksR (λr=>ρ r=ρ' r) zs->Z.rens ρ zs=Z.rens ρ' zs
 | [],_=>rfl
 | z::zs,h=>by simp only [Z.rens,ren_cong z h.1,rens_cong zs h.2]
end
mutual
theorem okR_ren:∀ z:Z,Z.okR (λr=>p (ρ r)) z->Z.okR p (Z.ren ρ z)
 | .b x,_=>trivial
 | .i k n,_=>trivial
 | .s x,_=>trivial
 | .nul x,_=>trivial
 | .nil,_=>trivial
 | .any,_=>trivial
 | .sl r o n w,h=>h
 | .ptr r j,h=>h
 | .mp r,h=>h
 | .it r,h=>h
 | .yl r,h=>h
 | .clo i u v,h=>⟨oksR_ren u h.1,oksR_ren v h.2⟩
 | .ifc T u,h=>okR_ren u h
 | .agg cs,h=>oksR_ren cs h
 | .tup cs,h=>oksR_ren cs h
theorem oksR_ren:∀ zs:List Z,Z.oksR (λr=>p (ρ r)) zs->Z.oksR p (Z.rens ρ zs)
 | [],_=>trivial
 | z::zs,h=>⟨okR_ren z h.1,oksR_ren zs h.2⟩
end
theorem renO_back {o:ZO} (h:o.okR λr=>β (ρ r)=r):(o.ren ρ).ren β=o:=by
 cases o with
 | ob T fx cs=>simp only [ZO.ren,rens_back cs h]
 | mp es c=>
  have:(es.map λe=>(Z.ren ρ e.1,Z.ren ρ e.2.1,e.2.2)).map (λe=>(Z.ren β e.1,Z.ren β e.2.1,e.2.2))=es:=by
   rw [List.map_map];have:∀ e∈es,((λe:Z × Z × Nat=>(Z.ren β e.1,Z.ren β e.2.1,e.2.2)) ∘ λe=>(Z.ren ρ e.1,Z.ren ρ e.2.1,e.2.2)) e=e:=λe he=>by
    simp only [Function.comp,ren_back _ (h e he).1,ren_back _ (h e he).2]
   rw [List.map_congr_left this]; simp
  simp only [ZO.ren,this]
 | it m a b c=>
  cases m with
  | none=>rfl
  | some r=>have h:=h r rfl; simp only [ZO.ren,Option.map_some,h]
 | lp c σ st=>simp only [ZO.ren,rens_back σ h]
theorem renO_cong {o:ZO} (h:o.okR λr=>ρ r=ρ' r):o.ren ρ=o.ren ρ':=by
 cases o with
 | ob T fx cs=>simp only [ZO.ren,rens_cong cs h]
 | mp es c=>
  have:es.map (λe=>(Z.ren ρ e.1,Z.ren ρ e.2.1,e.2.2))=es.map λe=>(Z.ren ρ' e.1,Z.ren ρ' e.2.1,e.2.2):=
   List.map_congr_left λe he=>by rw [ren_cong _ (h e he).1,ren_cong _ (h e he).2]
  simp only [ZO.ren,this]
 | it m a b c=>
  cases m with
  | none=>rfl
  | some r=>have h:=h r rfl; simp only [ZO.ren,Option.map_some,h]
 | lp c σ st=>simp only [ZO.ren,rens_cong σ h]
theorem okRO_ren {o:ZO} (h:o.okR λr=>p (ρ r)):(o.ren ρ).okR p:=by
 cases o with
 | ob T fx cs=>exact oksR_ren cs h
 | mp es c=>
  intro e he;obtain ⟨e',he',rfl⟩:=List.mem_map.1 he;exact ⟨okR_ren _ (h e' he').1,okR_ren _ (h e' he').2⟩
 | it m a b c=>
  intro q hq;cases m with
  | none=>simp at hq
  | some r=>simp at hq; rw [<- hq]; exact h r rfl
 | lp c σ st=>exact oksR_ren σ h
end

/-- A small heap's names in the great one. -/
noncomputable def embK (l:List Nat) (nx:Nat):Nat->(Nat->RR)->RR:= @List.rec Nat (λ_=>Nat->(Nat->RR)->RR) (λr f=>frc (Nat.add nx r) f) (λx _ ih r f=> @Nat.rec (λ_=>RR) (f x) (λr _=>ih r f) r) l
theorem embK_inv {nx:Nat}:∀ {l:List Nat} {r:Nat} {f:Nat->RR} {x:RR},embK l nx r f=x->f (emb (λr=>l.getD r 0) l.length nx r)=x
 | [],r,f,x,h=>by
  have h:frc (nx+r) f=x:=h;rw [frc_eq] at h
  simpa [emb] using h
 | y::l,0,f,x,h=>by simpa [emb] using (show f y=x from h)
 | y::l,r+1,f,x,h=>by
  have:=embK_inv (l:=l) (show embK l nx r f=x from h)
  simpa [emb] using this
noncomputable def upsE (n:Nat) (ρ:Nat->(Nat->RR)->RR) (ups:List (Nat × Option ZO)):(List (Nat × Option ZO)->RR)->RR:= @List.rec (Nat × Option ZO) (λ_=>(List (Nat × Option ZO)->RR)->RR) (λf=>f [])
 (λu _ ih f=> @Prod.rec Nat (Option ZO) (λ_=>RR) (λr o=> @Bool.rec (λ_=>RR) .bad (ρ r λr=> @Option.rec ZO (λ_=>RR) (ih λl=>f (.cons (r,none) l)) (λo=>renO ρ o λo=>ih λl=>f (.cons (r,some o) l)) o) (Nat.ble (Nat.succ r) n)) u) ups
noncomputable def newsE (ρ:Nat->(Nat->RR)->RR) (l:List ZO):(List ZO->RR)->RR:= @List.rec ZO (λ_=>(List ZO->RR)->RR) (λf=>f []) (λo _ ih f=>renO ρ o λo=>ih λl=>f (.cons o l)) l
theorem upsE_inv {n:Nat} {ρ:Nat->(Nat->RR)->RR} {D:Nat->Prop} {ρf:Nat->Nat} (hρ:NmK ρ D ρf):∀ (ups:List (Nat × Option ZO)) {f:List (Nat × Option ZO)->RR} {x:RR},upsE n ρ ups f=x->x≠.bad->
 (∀ u∈ups,u.1<n)/\f (ups.map λu=>(ρf u.1,u.2.map (ZO.ren ρf)))=x
 | [],f,y,h,hb=>⟨λu hu=>by simp at hu,h⟩
 | (r,o)::ups,f,y,h,hb=>by
  obtain ⟨h1,h⟩:=bad_inv (show @Bool.rec (λ_=>RR) .bad (ρ r λr=> @Option.rec ZO (λ_=>RR) (upsE n ρ ups λl=>f ((r,none)::l)) (λo=>renO ρ o λo=>upsE n ρ ups λl=>f ((r,some o)::l)) o) (Nat.ble (Nat.succ r) n)=y from h) hb;have h1:=ble_inv h1;obtain ⟨_,h⟩:=hρ _ _ _ h hb;cases o with
  | none=>
   obtain ⟨h2,h3⟩:=upsE_inv hρ ups h hb;exact ⟨λu hu=>by rcases List.mem_cons.1 hu with rfl | hu; exact h1; exact h2 u hu,h3⟩
  | some o=>
   obtain ⟨_,h⟩:=grenO_inv hρ h hb;obtain ⟨h2,h3⟩:=upsE_inv hρ ups h hb;exact ⟨λu hu=>by rcases List.mem_cons.1 hu with rfl | hu; exact h1; exact h2 u hu,h3⟩
theorem newsE_inv {ρ:Nat->(Nat->RR)->RR} {D:Nat->Prop} {ρf:Nat->Nat} (hρ:NmK ρ D ρf):∀ (l:List ZO) {f:List ZO->RR} {x:RR},newsE ρ l f=x->x≠.bad->f (l.map (ZO.ren ρf))=x
 | [],f,y,h,hb=>h
 | o::l,f,y,h,hb=>by
  obtain ⟨_,h⟩:=grenO_inv hρ (show renO ρ o (λo=>newsE ρ l λr=>f (o::r))=y from h) hb;exact newsE_inv hρ l h hb

/-- A call by itself: what it names, under names of its own. -/
noncomputable def isoK (m:Mem) (args:List Z) (f:List Nat->List Z->List ZO->RR):RR:=frcL (seen 0 m args []) λl=>rensK (newK 0 l) args λas=>newsR (newK 0 l) 0 m l 0 λos=>f l as os
/-- A call's answer: what it was asked (objects, arguments), what came of it. -/
inductive Fact where
 | mk (old:List ZO) (args zs:List Z) (ups:List (Nat × Option ZO)) (news:List ZO)
def hOld (old:List ZO):Nat->Option ZO:=newsF (λ_=>none) 0 old
def FactOK (P:Program) (id:FuncId):Fact->Prop
 | .mk old args zs ups news=>AnsOK P id (hOld old) old.length args zs ups news
noncomputable def hitK (m:Mem) (l:List Nat) (zs:List Z) (ups:List (Nat × Option ZO)) (news:List ZO):RR:=
 @Mem.rec (λ_=>RR) (λ_ nx _ _=>rensK (embK l nx) zs λzs=>upsE (lenN l) (embK l nx) ups λups=>newsE (embK l nx) news λnews=>.ok zs ups news) m
noncomputable def memoL (m:Mem) (l:List Nat) (as:List Z) (os:List ZO) (miss:RR) (Fs:List Fact):RR:=
 @List.rec Fact (λ_=>RR) miss (λF _ ih=> @Fact.rec (λ_=>RR) (λold args zs ups news=> @Bool.rec (λ_=>RR) ih (hitK m l zs ups news) (andB (eqZs as args) (eqOs os old))) F) Fs
noncomputable def memoK (Fs:List Fact) (m:Mem) (args:List Z) (miss:RR):RR:= @List.rec Fact (λ_=>RR) miss (λ_ _ _=>isoK m args λl as os=>memoL m l as os miss Fs) Fs
noncomputable def conM (fs:FuncId->List Fact) (con:(YT->Fn3)->YT->Fn3):(YT->Fn3)->YT->Fn3:=λg y id m args=>memoK (fs id) m args (con g y id m args)

theorem hOld_get (old:List ZO) (r:Nat):hOld old r=old[r]? :=by
 unfold hOld;rcases Nat.lt_or_ge r old.length with h | h
 . have:=newsF_get (h:=λ_=>none) (nx:=0) h;rw [Nat.zero_add] at this; exact this
 . rw [newsF_ge (by omega),List.getElem?_eq_none h]
theorem upsF_emb {h H:Nat->Option ZO} {β ρ:Nat->Nat} {n:Nat} (hinj:∀ r r',r<n->r'<n->β r=β r'->r=r') (h0:∀ r,r<n->H (β r)=(h r).map (ZO.ren ρ)):
 ∀ (ups:List (Nat × Option ZO)),(∀ u∈ups,u.1<n)->∀ r,r<n->upsF H (ups.map λu=>(β u.1,u.2.map (ZO.ren ρ))) (β r)=(upsF h ups r).map (ZO.ren ρ):=by
 intro ups;induction ups generalizing h H with
 | nil=>exact λ_ r hr=>h0 r hr
 | cons u us ih=>
  intro hu r hr;refine ih (h:=upd h u.1 u.2) (H:=upd H (β u.1) (u.2.map (ZO.ren ρ))) (λq hq=>?_) (λv hv=>hu v (by simp [hv])) r hr;have h1:=hu u (by simp);simp only [upd_apply];by_cases e:q=u.1
  . rw [if_pos e,if_pos (by rw [e])]
  . rw [if_neg e,if_neg (λe'=>e (hinj _ _ hq h1 e'))];exact h0 q hq

theorem hit_ok {P:Program} {id:FuncId} {m:Mem} {args:List Z} {l:List Nat} {as:List Z} {os:List ZO} {zs zs':List Z} {ups ups':List (Nat × Option ZO)} {news news':List ZO} (hfree:∀ r,m.nx<=r->mabs m r=none)
 (h1:Z.oksR (domL 0 l) args) (h2:as=Z.rens (rho 0 l) args) (h3:os.length=l.length) (h4:∀ j r,l[j]? =some r->0<=r/\rho 0 l r=0+j/\∃ o,mget r m=some o/\o.okR (domL 0 l)/\os[j]? =some (o.ren (rho 0 l)))
 (hF:AnsOK P id (hOld os) os.length as zs ups news) (h:hitK m l zs ups news= .ok zs' ups' news'):AnsOK P id (mabs m) m.nx args zs' ups' news':=by
 have hb:RR.ok zs' ups' news'≠.bad:=by simp
 let β:Nat->Nat:=λr=>l.getD r 0
 let ρ:Nat->Nat:=emb β l.length m.nx
 have hN:NmK (embK l m.nx) (λ_=>True) ρ:=λr f x h _=>⟨trivial,embK_inv h⟩;have h:rensK (embK l m.nx) zs (λzs=>upsE (lenN l) (embK l m.nx) ups λups=>newsE (embK l m.nx) news λnews=>.ok zs ups news)= .ok zs' ups' news':=by cases m; exact h
 obtain ⟨_,h⟩:=grensK_inv hN zs h hb;obtain ⟨hul,h⟩:=upsE_inv hN ups h hb;have h:=newsE_inv hN news h hb;rw [lenN_eq] at hul;simp only [RR.ok.injEq] at h;obtain ⟨rfl,rfl,rfl⟩:=h;have hget:∀ j,j<l.length->∃ r,l[j]? =some r/\β j=r:=λj hj=>⟨l[j],by rw [List.getElem?_eq_getElem hj],by simp [β,hj]⟩;have hdom:∀ r,domL 0 l r->β (rho 0 l r)=r/\rho 0 l r<l.length:=λr hr=>by
  have hm:r∈l:=by rcases hr with h | h; omega; exact h
  obtain ⟨j,hj⟩:=List.mem_iff_getElem?.1 hm;obtain ⟨_,b,_⟩:=h4 j r hj;have hl:j<l.length:=(List.getElem?_eq_some_iff.1 hj).1;rw [b,Nat.zero_add];refine ⟨?_,hl⟩;show l.getD j 0=r;rw [List.getD_eq_getElem?_getD,hj]; rfl
 have hobj:∀ r o,hOld os r=some o->r<os.length/\mabs m (β r)=some (o.ren β)/\o.okR (· < os.length):=λr o ho=>by
  rw [hOld_get] at ho;have hr:r<os.length:=(List.getElem?_eq_some_iff.1 ho).1;obtain ⟨q,c1,c2⟩:=hget r (by omega);obtain ⟨_,_,o',d1,d2,d3⟩:=h4 r q c1;rw [d3,Option.some.injEq] at ho;subst ho;refine ⟨hr,?_,okRO_ren (ZO.okR_mono (λr hr=>by rw [h3]; exact (hdom r hr).2) d2)⟩;rw [c2,renO_back (ZO.okR_mono (λr hr=>(hdom r hr).1) d2)];exact d1
 have hlive:∀ r,r<os.length->∃ o,hOld os r=some o:=λr hr=>⟨os[r],by rw [hOld_get,List.getElem?_eq_getElem hr]⟩;have hβ:∀ r,r<os.length->β r<m.nx:=λr hr=>by
  obtain ⟨o,ho⟩:=hlive r hr;have:=(hobj r o ho).2.1;rcases Nat.lt_or_ge (β r) m.nx with h | h
  . exact h
  . rw [hfree _ h] at this; cases this
 have hinj:∀ r r',r<os.length->r'<os.length->β r=β r'->r=r':=λr r' a b e=>by
  obtain ⟨q,c1,c2⟩:=hget r (by omega);obtain ⟨q',d1,d2⟩:=hget r' (by omega);have e1:=(h4 r q c1).2.1;have e2:=(h4 r' q' d1).2.1;rw [c2,d2] at e;subst e;omega
 have hargs:args=Z.rens β as:=by rw [h2,rens_back args (oksR_mono (λr hr=>(hdom r hr).1) args h1)]
 unfold AnsOK at hF ⊢;rw [hargs];refine hF.frame (H:=mabs m) (NX:=m.nx) (β:=β) hβ (λr r' a b _ _ e=>hinj r r' a b e) hobj (by rw [h2]; exact oksR_ren _ (oksR_mono (λr hr=>by rw [h3]; exact (hdom r hr).2) _ h1)) ?_;rintro h' nx' zs1 ⟨rfl,rfl,rfl⟩ _;refine ⟨λr hr hn=>?_,λH' J=>⟨by rw [h3],by rw [List.length_map]; omega,?_⟩⟩
 . obtain ⟨o,ho⟩:=hlive r hr;rw [ho] at hn; cases hn
 . have hρe:ρ=emb β os.length m.nx:=by rw [h3]
   funext q;rcases Nat.lt_or_ge q m.nx with hq | hq
   . rw [newsF_lt hq];by_cases hi:∃ r,r<os.length/\β r=q
     . obtain ⟨r,a,rfl⟩:=hi;obtain ⟨o,ho⟩:=hlive r a;rw [J.own r a (by rw [ho]; simp),newsF_lt a,<-hρe];have:=upsF_emb (h:=hOld os) (H:=mabs m) (β:=β) (ρ:=ρ) (n:=os.length) hinj (λr hr=>by
        obtain ⟨o,ho⟩:=hlive r hr;rw [ho,(hobj r o ho).2.1,Option.map_some,renO_cong (ZO.okR_mono (λr hr=>?_) (hobj r o ho).2.2)];show β r=emb β l.length m.nx r;unfold emb; rw [if_pos (by omega)]) ups (by rw [h3]; exact hul) r a
       rw [<- this];congr 1;refine List.map_congr_left λu hu=>?_;show (β u.1,_)=(emb β l.length m.nx u.1,_);unfold emb; rw [if_pos (hul u hu)]
     . rw [J.rest q hq (λr a _ c=>hi ⟨r,a,c⟩),upsF_notin];intro u hu;obtain ⟨v,hv,rfl⟩:=List.mem_map.1 hu;intro e;refine hi ⟨v.1,by rw [h3]; exact hul v hv,?_⟩;have e:emb β l.length m.nx v.1=q:=e;unfold emb at e; rw [if_pos (hul v hv)] at e; exact e
   . rw [J.new q hq];have e:q-m.nx+os.length=os.length+(q-m.nx):=by omega
     rw [e];rcases Nat.lt_or_ge (q-m.nx) news.length with hj | hj
     . rw [newsF_get hj];have e2:q=m.nx+(q-m.nx):=by omega
       have:=newsF_get (h:=upsF (mabs m) (ups.map λu=>(ρ u.1,u.2.map (ZO.ren ρ)))) (nx:=m.nx) (news:=news.map (ZO.ren ρ)) (j:=q-m.nx) (by rw [List.length_map]; exact hj);rw [<- e2] at this;rw [this,List.getElem?_map,hρe]
     . rw [newsF_ge (by omega),newsF_ge (by rw [List.length_map]; omega),upsF_notin (λu hu=>by have:=hul u hu; omega),upsF_notin,hfree q hq,hOld_get,List.getElem?_eq_none (by omega)]
       . rfl
       . intro u hu;obtain ⟨v,hv,rfl⟩:=List.mem_map.1 hu;have hv':=hul v hv;have:=hβ v.1 (by omega);show emb β l.length m.nx v.1≠q;unfold emb; rw [if_pos hv']; omega

theorem memoL_ok {P:Program} {id:FuncId} {m:Mem} {args:List Z} {l:List Nat} {as:List Z} {os:List ZO} {M r:RR} (hfree:∀ r,m.nx<=r->mabs m r=none)
 (h1:Z.oksR (domL 0 l) args) (h2:as=Z.rens (rho 0 l) args) (h3:os.length=l.length) (h4:∀ j r,l[j]? =some r->0<=r/\rho 0 l r=0+j/\∃ o,mget r m=some o/\o.okR (domL 0 l)/\os[j]? =some (o.ren (rho 0 l))) (hb:r≠.bad):
 ∀ (Fs:List Fact),(∀ F∈Fs,FactOK P id F)->memoL m l as os M Fs=r->M=r\/∃ zs ups news,r= .ok zs ups news/\AnsOK P id (mabs m) m.nx args zs ups news
 | [],_,h=>.inl h
 | .mk old fa zs ups news::Fs,hF,h=>by
  have hh: @Bool.rec (λ_=>RR) (memoL m l as os M Fs) (hitK m l zs ups news) (andB (eqZs as fa) (eqOs os old))=r:=h;clear h;cases e:andB (eqZs as fa) (eqOs os old) with
  | false=>rw [e] at hh; exact memoL_ok hfree h1 h2 h3 h4 hb Fs (λF h=>hF F (by simp [h])) hh
  | true=>
   rw [e] at hh;obtain ⟨e1,e2⟩:=andB_inv e;have e1:=eqZs_ok _ _ e1;have e2:=eqOs_ok _ _ e2;subst e1 e2;have h:hitK m l zs ups news=r:=hh;have hFF:AnsOK P id (hOld os) os.length as zs ups news:=hF (.mk os as zs ups news) (by simp);cases r with
   | bad=>exact absurd rfl hb
   | ok zs' ups' news'=>exact .inr ⟨_,_,_,rfl,hit_ok hfree h1 h2 h3 h4 hFF h⟩
   | pan v dt=>
    exfalso;have hN:NmK (embK l m.nx) (λ_=>True) (emb (λr=>l.getD r 0) l.length m.nx):=λr f x h _=>⟨trivial,embK_inv h⟩;have h:rensK (embK l m.nx) zs (λzs=>upsE (lenN l) (embK l m.nx) ups λups=>newsE (embK l m.nx) news λnews=>.ok zs ups news)= .pan v dt:=by cases m; exact h
    obtain ⟨_,h⟩:=grensK_inv hN zs h hb;obtain ⟨_,h⟩:=upsE_inv hN ups h hb;have h:=newsE_inv hN news h hb;cases h

theorem memoK_ok {P:Program} {id:FuncId} {m:Mem} {args:List Z} {M r:RR} (hfree:∀ r,m.nx<=r->mabs m r=none) (hb:r≠.bad) {Fs:List Fact} (hF:∀ F∈Fs,FactOK P id F) (h:memoK Fs m args M=r):
 M=r\/∃ zs ups news,r= .ok zs ups news/\AnsOK P id (mabs m) m.nx args zs ups news:=by
 cases Fs with
 | nil=>exact .inl h
 | cons F Fs=>
  have h:=frcL_inv _ (show frcL (seen 0 m args []) (λl=>rensK (newK 0 l) args λas=>newsR (newK 0 l) 0 m l 0 λos=>memoL m l as os M (F::Fs))=r from h);obtain ⟨h1,h⟩:=rensK_inv args h hb;obtain ⟨os,h,h3,h4⟩:=newsR_inv _ h hb;exact memoL_ok hfree h1 rfl h3 (λj r hj=>by have:=h4 j r hj; exact this) hb _ hF h

theorem conM_ok {P:Program} {fs:FuncId->List Fact} {con:(YT->Fn3)->YT->Fn3} (hf:∀ id,∀ F∈fs id,FactOK P id F) (hc:ConOK P con):ConOK P (conM fs con):=by
 intro g hg y hy id m args h1 h2;have hm:=hc g hg y hy id m args h1 h2;refine ⟨λzs ups news h=>?_,λv dt h=>?_⟩
 . rcases memoK_ok (M:=con g y id m args) h2 (by simp) (hf id) h with e | ⟨_,_,_,e,hA⟩
   . exact hm.1 _ _ _ e
   . simp only [RR.ok.injEq] at e;obtain ⟨rfl,rfl,rfl⟩:=e;exact hA
 . rcases memoK_ok (M:=con g y id m args) h2 (by simp) (hf id) h with e | ⟨_,_,_,e,hA⟩
   . exact hm.2 _ _ e
   . cases e

/-- A heap of given objects. -/
noncomputable def memL (old:List ZO):Mem:= @List.rec ZO (λ_=>Mem->Mem) (λm=>m) (λo _ ih m=>ih (mput o m)) old (.mk h00 0 0 [])
theorem memL_ok:∀ (old:List ZO) (m:Mem),m.nx+old.length<=4096->mabs (@List.rec ZO (λ_=>Mem->Mem) (λm=>m) (λo _ ih m=>ih (mput o m)) old m)=newsF (mabs m) m.nx old/\(@List.rec ZO (λ_=>Mem->Mem) (λm=>m) (λo _ ih m=>ih (mput o m)) old m).nx=m.nx+old.length
 | [],m,_=>⟨rfl,rfl⟩
 | o::os,m,h=>by
  simp only [List.length_cons] at h;obtain ⟨h1,h2⟩:=memL_ok os (mput o m) (by rw [mput_nx]; omega);refine ⟨?_,?_⟩
  . refine h1.trans ?_;rw [mabs_put (by omega),mput_nx]; rfl
  . refine h2.trans ?_;rw [mput_nx,List.length_cons]; omega
noncomputable def noY:YT:=λ_ _ _=>.bad
theorem noY_ok (P:Program):YOK P noY:=λq m args zs ups news _ _ h=>by cases h
/-- A fact, by the kernel's reckoning. -/
theorem fact_of {P:Program} {g:YT->Fn3} (hg:GOK P g) {y:YT} (hy:YOK P y) {id:FuncId} {old:List ZO} {args zs:List Z} {ups:List (Nat × Option ZO)} {news:List ZO} (hl:Nat.ble old.length 4096=true)
 (h:g y id (memL old) args= .ok zs ups news):FactOK P id (.mk old args zs ups news):=by
 have h0:mabs (.mk h00 0 0 [])=λ_=>none:=by funext r; exact hget_h00 r
 have hl:=Nat.le_of_ble_eq_true hl;obtain ⟨h1,h2⟩:=memL_ok old (.mk h00 0 0 []) (by show 0+old.length<=4096; omega);have h1:mabs (memL old)=newsF (mabs (.mk h00 0 0 [])) 0 old:=h1;have h2:(memL old).nx=0+old.length:=h2;rw [Nat.zero_add] at h2;rw [h0] at h1;have:=(hg y hy id (memL old) args (by rw [h2]; exact hl) (λr hr=>by rw [h1]; rw [h2] at hr; rw [newsF_ge (by omega)])).1 _ _ _ h;rw [h1,h2] at this;exact this
end Go.Zw
namespace Go.Zw
open Go.Vw (ancOk ordOk slimX slimRes)

def yslimCode (P:Program) (n:Nat):Code->Option XC
 | .skip=>some .skip
 | .seq a b=>match yslimCode P n a,yslimCode P n b with | some x,some y=>some (.seq x y) | _,_=>none
 | .region _ ops draw=>
  match draw,dfrOf P ops.toList with
  | false,some x=>(xslimL P n ops ops.toList.dropLast).map λl=>.dfr l x
  | true,some _=>none
  | _,none=>
  match xslimL P n ops ops.toList with
  | some l=>if draw then some (.regD (Region.before ops).toList l) else some (.reg l)
  | none=>none
 | .cond c a b=>match slimX P 0 c,yslimCode P n a,yslimCode P n b with | some c,some x,some y=>some (.cond c x y) | _,_,_=>none
 | .block id b=>(yslimCode P n b).map (.block id)
 | .loop b=>(yslimCode P n b).map .loop
 | .exit id=>some (.exit id)
 | .ret=>some .ret
 | .label _=>some .skip
 | .scope b=>(yslimCode P n b).map .scope
 | .refuse _=>some .no
 | .rangeFunc g ps a b=>match slimX P 0 g,yslimCode P n a,yslimCode P n b with | some g,some x,some y=>if ps.toList.all (· < n) then some (.rf g ⟨ps,a,b⟩ x y) else none | _,_,_=>none
 | _=>none

/-- The looks at drawn regions. -/
def drawnOk (P:Program) (n:Nat):Code->Bool
 | .seq a b=>drawnOk P n a && drawnOk P n b
 | .region _ ops draw=> !draw || (match xslimL P n ops ops.toList with | some l=>ancOk ops.toList (Region.before ops).toList && ordOk ops.toList && apAllX l (Region.before ops).toList && P.follows .mixedOrders | none=>false)
 | .cond _ a b=>drawnOk P n a && drawnOk P n b
 | .block _ b=>drawnOk P n b
 | .loop b=>drawnOk P n b
 | .scope b=>drawnOk P n b
 | .rangeFunc _ _ a b=>drawnOk P n a && drawnOk P n b
 | _=>true

theorem yslim_ok {P:Program} {n:Nat}:∀ (c:Code) {x:XC},drawnOk P n c=true->yslimCode P n c=some x->xslimCode P n c=some x
 | .skip,x,_,h=>h
 | .seq a b,x,hd,h=>by
  simp only [drawnOk,Bool.and_eq_true] at hd;simp only [yslimCode] at h;split at h
  . rename_i u v h1 h2;simp only [xslimCode,yslim_ok a hd.1 h1,yslim_ok b hd.2 h2]; exact h
  . cases h
 | .region k ops draw,x,hd,h=>by
  cases draw with
  | false=>exact h
  | true=>
   simp only [drawnOk,Bool.not_true,Bool.false_or] at hd;simp only [yslimCode] at h;simp only [xslimCode];cases ed:dfrOf P ops.toList with
   | some z=>rw [ed] at h; cases h
   | none=>
    rw [ed] at h;cases el:xslimL P n ops ops.toList with
    | none=>rw [el] at h; cases h
    | some l=>
     rw [el] at h hd;simp only [if_true] at h ⊢;rw [if_pos hd];exact h
 | .cond c a b,x,hd,h=>by
  simp only [drawnOk,Bool.and_eq_true] at hd;simp only [yslimCode] at h;split at h
  . rename_i w u v h0 h1 h2;simp only [xslimCode,h0,yslim_ok a hd.1 h1,yslim_ok b hd.2 h2]; exact h
  . cases h
 | .block id b,x,hd,h=>by
  simp only [yslimCode,Option.map_eq_some_iff] at h;obtain ⟨u,h1,rfl⟩:=h;simp only [xslimCode,yslim_ok b hd h1,Option.map_some]
 | .loop b,x,hd,h=>by
  simp only [yslimCode,Option.map_eq_some_iff] at h;obtain ⟨u,h1,rfl⟩:=h;simp only [xslimCode,yslim_ok b hd h1,Option.map_some]
 | .exit id,x,_,h=>h
 | .ret,x,_,h=>h
 | .label _,x,_,h=>h
 | .scope b,x,hd,h=>by
  simp only [yslimCode,Option.map_eq_some_iff] at h;obtain ⟨u,h1,rfl⟩:=h;simp only [xslimCode,yslim_ok b hd h1,Option.map_some]
 | .refuse _,x,_,h=>h
 | .rangeFunc g ps a b,x,hd,h=>by
  simp only [drawnOk,Bool.and_eq_true] at hd;simp only [yslimCode] at h;split at h
  . rename_i w u v h0 h1 h2;simp only [xslimCode,h0,yslim_ok a hd.1 h1,yslim_ok b hd.2 h2]; exact h
  . cases h
 | .goto _,x,_,h=>h

def yslimF (P:Program) (fn:Func):Option T3:=
 match fn.body with
 | some c=>
  if fn.name == "runtime.NumGoroutine" then none else
  match yslimCode P fn.ntmps c,slimRes P fn.results.toList with
  | some sc,some rs=>some (fn.ntmps,sc,rs)
  | _,_=>none
 | none=>none
def drawnF (P:Program) (f:FuncId):Bool:=match P.funcs[f]? with | some fn=>(match fn.body with | some c=>drawnOk P fn.ntmps c | none=>true) | none=>true
theorem yslimF_ok {P:Program} {f:FuncId} {fn:Func} {t:T3} (hf:P.funcs[f]? =some fn) (hd:drawnF P f=true) (h:yslimF P fn=some t):xslimF P fn=some t:=by
 unfold drawnF at hd;simp only [hf] at hd;unfold yslimF at h;unfold xslimF;cases eb:fn.body with
 | none=>rw [eb] at h; cases h
 | some c=>
  rw [eb] at h hd;simp only at h hd ⊢;split at h
  . cases h
  . rename_i hn;rw [if_neg hn];split at h
    . rename_i sc rs h1 h2;rw [yslim_ok c hd h1,h2]; exact h
    . cases h
/-- The table of the functions listed. -/
noncomputable def tabY (P:Program) (L:List Nat) (f:FuncId):Option T3:= @Bool.rec (λ_=>Option T3) none ((P.funcs[f]?).bind (yslimF P)) (memN f L)
theorem tabY_ok {P:Program} {L:List Nat} (hL:∀ f∈L,drawnF P f=true):TabOK P (tabY P L):=by
 intro f t h;have h: @Bool.rec (λ_=>Option T3) none ((P.funcs[f]?).bind (yslimF P)) (memN f L)=some t:=h;cases e:memN f L with
 | false=>rw [e] at h; cases h
 | true=>
  rw [e] at h;simp only [Option.bind_eq_some_iff] at h;obtain ⟨fn,h1,h2⟩:=h;exact ⟨fn,h1,yslimF_ok h1 (hL f ((memN_iff f L).1 e)) h2⟩
noncomputable def tabD (P:Program) (L:List Nat) (f:FuncId):Option TD:= @Bool.rec (λ_=>Option TD) none ((P.funcs[f]?).bind (xdslimF P)) (memN f L)
theorem tabD_ok (P:Program) (L:List Nat):DTabOK P (tabD P L):=by
 intro f t h;have h: @Bool.rec (λ_=>Option TD) none ((P.funcs[f]?).bind (xdslimF P)) (memN f L)=some t:=h;cases e:memN f L with
 | false=>rw [e] at h; cases h
 | true=>
  rw [e] at h;simp only [Option.bind_eq_some_iff] at h;exact h
/-- A look at many. -/
noncomputable def allD (P:Program) (L:List Nat):Bool:= @List.rec Nat (λ_=>Bool) true (λf _ ih=> @Bool.rec (λ_=>Bool) false ih (drawnF P f)) L
theorem allD_ok {P:Program}:∀ {L:List Nat},allD P L=true->∀ f∈L,drawnF P f=true
 | [],_,f,hf=>by simp at hf
 | x::L,h,f,hf=>by
  have h: @Bool.rec (λ_=>Bool) false (allD P L) (drawnF P x)=true:=h;cases e:drawnF P x with
  | false=>rw [e] at h; cases h
  | true=>
   rw [e] at h;rcases List.mem_cons.1 hf with rfl | hf
   . exact e
   . exact allD_ok h f hf
end Go.Zw
namespace Go.Zw
open Go.Vw (ancOk ordOk slimX slimRes)

-- short words for values
def zJ (n:Nat):Z:=.i .i64 (.ofNat n)
def zM (n:Nat):Z:=.i .i64 (.negSucc n)
def zU (n:Nat):Z:=.i .u64 (.ofNat n)
def zB (n:Nat):Z:=.i .u8 (.ofNat n)
def zT:Z:=.b true
def zF:Z:=.b false
def b8 (n:Nat):UInt8:=UInt8.ofNat n
noncomputable def u8L (l:List Nat):List UInt8:= @List.rec Nat (λ_=>List UInt8) [] (λx _ ih=>.cons (b8 x) ih) l
noncomputable def zS (l:List Nat):Z:=.s ⟨⟨u8L l⟩⟩

/-- Rounds, to the depth d. -/
noncomputable def yD (con:(YT->Fn3)->YT->Fn3) (tab:FuncId->Option T3) (dtab:FuncId->Option TD) (slm:Nat->Code->Option XC) (d:Nat):YT:=
 @Nat.rec (λ_=>YT) noY (λ_ ih=>roundU slm (entT tab) 1000 (.mk ih (kfun con tab dtab 1000 60) (λ_ _ _ _=>.bad) .clean)) d
theorem yD_ok {P:Program} {con:(YT->Fn3)->YT->Fn3} {tab:FuncId->Option T3} {dtab:FuncId->Option TD} {slm:Nat->Code->Option XC} (hcon:ConOK P con) (ht:TabOK P tab) (hdt:DTabOK P dtab) (hs:∀ n c x,slm n c=some x->xslimCode P n c=some x):∀ d,YOK P (yD con tab dtab slm d)
 | 0=>noY_ok P
 | d+1=>roundU_ok (entT_ok ht) hs ⟨yD_ok hcon ht hdt hs d,kfun_ok hcon ht hdt 60⟩

/-- Facts by functions. -/
noncomputable def fsL (l:List (Nat × List Fact)):FuncId->List Fact:=λid=> @List.rec (Nat × List Fact) (λ_=>List Fact) [] (λx _ ih=> @Prod.rec Nat (List Fact) (λ_=>List Fact) (λf Fs=> @Bool.rec (λ_=>List Fact) ih Fs (Nat.beq id f)) x) l
def factsOK (P:Program) (f:FuncId):List Fact->Prop
 | []=>True
 | F::Fs=>FactOK P f F/\factsOK P f Fs
def depsOK (P:Program):List (Nat × List Fact)->Prop
 | []=>True
 | x::l=>factsOK P x.1 x.2/\depsOK P l
theorem factsOK_mem {P:Program} {f:FuncId}:∀ {Fs:List Fact},factsOK P f Fs->∀ F∈Fs,FactOK P f F
 | [],_,F,h=>by simp at h
 | x::Fs,h,F,hF=>by
  rcases List.mem_cons.1 hF with rfl | hF
  . exact h.1
  . exact factsOK_mem h.2 F hF
theorem fsL_ok {P:Program}:∀ {l:List (Nat × List Fact)},depsOK P l->∀ id,∀ F∈fsL l id,FactOK P id F
 | [],_,id,F,h=>by simp [fsL] at h
 | (f,Fs)::l,h,id,F,hF=>by
  have hG:F∈@Bool.rec (λ_=>List Fact) (fsL l id) Fs (Nat.beq id f):=hF;clear hF;cases e:Nat.beq id f with
  | false=>rw [e] at hG; exact fsL_ok h.2 id F hG
  | true=>
   rw [e] at hG;have e:=Nat.eq_of_beq_eq_true e;subst e;exact factsOK_mem h.1 F hG

/-- Is a fact so? -/
noncomputable def chkF (g:Fn3) (id:FuncId) (F:Fact):Bool:= @Fact.rec (λ_=>Bool) (λold args zs ups news=>andB (Nat.ble old.length 4096) (eqRR (g id (memL old) args) (.ok zs ups news))) F
noncomputable def chkAll (g:Fn3) (l:List (Nat × Fact)):Bool:= @List.rec (Nat × Fact) (λ_=>Bool) true (λx _ ih=> @Bool.rec (λ_=>Bool) false ih (chkF g x.1 x.2)) l
def allOK (P:Program):List (Nat × Fact)->Prop
 | []=>True
 | x::l=>FactOK P x.1 x.2/\allOK P l
theorem chkAll_ok {P:Program} {g:YT->Fn3} {y:YT} (hg:GOK P g) (hy:YOK P y):∀ {l:List (Nat × Fact)},chkAll (g y) l=true->allOK P l
 | [],_=>trivial
 | (id,F)::l,h=>by
  have h: @Bool.rec (λ_=>Bool) false (chkAll (g y) l) (chkF (g y) id F)=true:=h;cases e:chkF (g y) id F with
  | false=>rw [e] at h; cases h
  | true=>
   rw [e] at h;refine ⟨?_,chkAll_ok hg hy h⟩;cases F with
   | mk old args zs ups news=>
    obtain ⟨h1,h2⟩:=andB_inv (show andB (Nat.ble old.length 4096) (eqRR (g y id (memL old) args) (.ok zs ups news))=true from e);exact fact_of hg hy h1 (eqRR_ok _ _ h2)
end Go.Zw
