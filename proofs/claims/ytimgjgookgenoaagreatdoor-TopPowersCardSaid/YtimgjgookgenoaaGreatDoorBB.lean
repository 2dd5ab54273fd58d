/- A base: codes written out; natives; calls reckoned by themselves. It names no program. -/
import Derived.Test.YtimgjgookgenoaaGreatDoorBA4
set_option linter.unusedVariables false
set_option linter.unusedSimpArgs false
set_option linter.unusedSectionVars false
namespace Go.Zw
open Go.Vw (Nul V SX SO SRes width)

-- states in parts
noncomputable def cas8 {α:Type} (x:N8 α) (f:α->α->α->α->α->α->α->α->RR):RR:= @N8.rec α (λ_=>RR) f x
theorem cas8_eq {α:Type} (x:N8 α) (f:N8 α->RR):cas8 x (λa0 a1 a2 a3 a4 a5 a6 a7=>f (.mk a0 a1 a2 a3 a4 a5 a6 a7))=f x:=by cases x; rfl
theorem put8_get8 {α:Type} {i:Nat} (hi:i<8) (x:N8 α):put8 i (get8 i x) x=x:=by
 cases x;rcases lt8 hi with rfl | rfl | rfl | rfl | rfl | rfl | rfl | rfl<;>rfl
/-- Parts of a state, taken apart. -/
noncomputable def splM {α:Type} (gs:List Nat) (f:N8 (N8 α)->RR):N8 (N8 α)->RR:= @List.rec Nat (λ_=>N8 (N8 α)->RR) f (λg _ ih b=>cas8 (get8 g b) λa0 a1 a2 a3 a4 a5 a6 a7=>ih (put8 g (.mk a0 a1 a2 a3 a4 a5 a6 a7) b)) gs
noncomputable def splT {α:Type} (ts:List (Nat × List Nat)) (f:N8 (N8 (N8 α))->RR):N8 (N8 (N8 α))->RR:= @List.rec (Nat × List Nat) (λ_=>N8 (N8 (N8 α))->RR) f (λt _ ih a=>cas8 (get8 t.1 a) λa0 a1 a2 a3 a4 a5 a6 a7=>splM t.2 (λb=>ih (put8 t.1 b a)) (.mk a0 a1 a2 a3 a4 a5 a6 a7)) ts
noncomputable def splS (ts:List (Nat × List Nat)) (f:SL->RR) (s:SL):RR:=cas8 s λa0 a1 a2 a3 a4 a5 a6 a7=>splT ts f (.mk a0 a1 a2 a3 a4 a5 a6 a7)
noncomputable def allM (gs:List Nat):Bool:= @List.rec Nat (λ_=>Bool) true (λg _ ih=> @Bool.rec (λ_=>Bool) false ih (Nat.ble g 7)) gs
noncomputable def allT (ts:List (Nat × List Nat)):Bool:= @List.rec (Nat × List Nat) (λ_=>Bool) true (λt _ ih=> @Bool.rec (λ_=>Bool) false (@Bool.rec (λ_=>Bool) false ih (allM t.2)) (Nat.ble t.1 7)) ts
theorem splM_eq {α:Type} (f:N8 (N8 α)->RR):∀ (gs:List Nat),allM gs=true->∀ b,splM gs f b=f b
 | [],_,b=>rfl
 | g::gs,h,b=>by
  have h: @Bool.rec (λ_=>Bool) false (allM gs) (Nat.ble g 7)=true:=h;cases e:Nat.ble g 7 with
  | false=>rw [e] at h; cases h
  | true=>
   rw [e] at h;show cas8 (get8 g b) (λa0 a1 a2 a3 a4 a5 a6 a7=>splM gs f (put8 g (.mk a0 a1 a2 a3 a4 a5 a6 a7) b))=f b;rw [cas8_eq (get8 g b) (λc=>splM gs f (put8 g c b)),splM_eq f gs h,put8_get8 (by have:=Nat.le_of_ble_eq_true e; omega)]
theorem splT_eq {α:Type} (f:N8 (N8 (N8 α))->RR):∀ (ts:List (Nat × List Nat)),allT ts=true->∀ a,splT ts f a=f a
 | [],_,a=>rfl
 | t::ts,h,a=>by
  have h: @Bool.rec (λ_=>Bool) false (@Bool.rec (λ_=>Bool) false (allT ts) (allM t.2)) (Nat.ble t.1 7)=true:=h;cases e:Nat.ble t.1 7 with
  | false=>rw [e] at h; cases h
  | true=>
   rw [e] at h;have h: @Bool.rec (λ_=>Bool) false (allT ts) (allM t.2)=true:=h;cases e2:allM t.2 with
   | false=>rw [e2] at h; cases h
   | true=>
    rw [e2] at h;show cas8 (get8 t.1 a) (λa0 a1 a2 a3 a4 a5 a6 a7=>splM t.2 (λb=>splT ts f (put8 t.1 b a)) (.mk a0 a1 a2 a3 a4 a5 a6 a7))=f a;rw [cas8_eq (get8 t.1 a) (λc=>splM t.2 (λb=>splT ts f (put8 t.1 b a)) c),splM_eq _ _ e2,splT_eq f ts h,put8_get8 (by have:=Nat.le_of_ble_eq_true e; omega)]
theorem splS_eq {ts:List (Nat × List Nat)} (h:allT ts=true) (f:SL->RR) (s:SL):splS ts f s=f s:=by
 unfold splS;rw [cas8_eq s (λa=>splT ts f a),splT_eq f ts h]

-- operations
abbrev KF:=Z->Mem->RR
noncomputable def wPick (t x y:Z) (m:Mem) (F:KF):RR:=zBool t λt=> @Bool.rec (λ_=>RR) (F y m) (F x m) t
noncomputable def wBin (a:Ar) (b:Sr) (x y:Z) (m:Mem) (F:KF):RR:=zIS x (λk1 i=>zInt y λk2 j=>a k1 k2 i j λz=>F z m) λu=>zStr y λv=>b u v λz=>F z m
noncomputable def wEqb (neg:Bool) (x y:Z) (m:Mem) (F:KF):RR:=zBool x λa=>zBool y λb=>F (.b (@Bool.rec (λ_=>Bool) (@Bool.rec (λ_=>Bool) (notB b) b a) (@Bool.rec (λ_=>Bool) b (notB b) a) neg)) m
noncomputable def wNot (x:Z) (m:Mem) (F:KF):RR:=zBool x λa=>F (.b (notB a)) m
noncomputable def wNeg (x:Z) (m:Mem) (F:KF):RR:=zInt x λk1 i=>wr k1 (negI i) λz=>F z m
noncomputable def wConv (k2:IntKind) (x:Z) (m:Mem) (F:KF):RR:=zInt x λ_ i=>wr k2 i λz=>F z m
noncomputable def wLoad1 (x:Z) (m:Mem) (F:KF):RR:=zPtr x λr j=>oOb (mget r m) λ_ _ cs=>nthK cs j λz=>F z m
noncomputable def wLoad (n:Nat) (x:Z) (m:Mem) (F:KF):RR:=zPtr x λr j=>oOb (mget r m) λ_ _ cs=>subK cs j n λl=>F (.agg l) m
noncomputable def wStore1 (x v:Z) (m:Mem) (F:KF):RR:=zPtr x λr j=>oOb (mget r m) λT fx cs=>zCell v (patK cs j (.cons v .nil) λl=>F (.tup []) (mset r (.some (.ob T fx l)) m))
noncomputable def wStore (n:Nat) (x v:Z) (m:Mem) (F:KF):RR:=zPtr x λr j=>oOb (mget r m) λT fx cs=>zAgg v λvs=> @Bool.rec (λ_=>RR) .bad (patK cs j vs λl=>F (.tup []) (mset r (.some (.ob T fx l)) m)) (Nat.beq (lenL vs) n)
noncomputable def wIdx (w0:Nat) (x i:Z) (m:Mem) (F:KF):RR:=zSl x λr o n w=>zNat i λj=> @Bool.rec (λ_=>RR) .bad (@Bool.rec (λ_=>RR) .bad (frc (Nat.add o (Nat.mul j w)) λq=>F (.ptr r q) m) (Nat.beq w0 w)) (Nat.ble (Nat.succ j) n)
noncomputable def wLen (x:Z) (m:Mem) (F:KF):RR:=zLenS x (F (.i .i64 (.ofNat 0)) m) λn=>F (.i .i64 (.ofNat n)) m
noncomputable def wLenS (x:Z) (m:Mem) (F:KF):RR:=zStr x λt=>frc (lenB t.data.toList) λn=>F (.i .i64 (.ofNat n)) m
noncomputable def wIndex (x i:Z) (m:Mem) (F:KF):RR:=zStr x λt=>zNat i λj=>(@List.rec UInt8 (λ_=>Nat->RR) (λ_=>.bad) (λx _ ih j=> @Nat.rec (λ_=>RR) (frc (u8n x) λn=>F (.i .u8 (.ofNat n)) m) (λj _=>ih j) j) t.data.toList) j
noncomputable def wExt (x:Z) (j:Nat) (m:Mem) (F:KF):RR:=zTup x λcs=>nthK cs j λz=>F z m
noncomputable def wFAddr (off:Nat) (x:Z) (m:Mem) (F:KF):RR:=zPtr x λr j=>frc (Nat.add j off) λq=>F (.ptr r q) m
noncomputable def wField1 (off:Nat) (x:Z) (m:Mem) (F:KF):RR:=zAgg x λcs=>nthK cs off λz=>F z m
noncomputable def wField (off n:Nat) (x:Z) (m:Mem) (F:KF):RR:=zAgg x λcs=>subK cs off n λl=>F (.agg l) m
noncomputable def wMake (T:TypeId) (w:Nat) (zs:List Z) (bytes:Nat) (l:Z) (m:Mem) (F:KF):RR:=zNat l λn=> @Bool.rec (λ_=>RR) .bad (@Bool.rec (λ_=>RR) .bad (mnew (.ob T true (repsL zs n)) m λq m=>F (.sl q 0 n w) m) (Nat.ble (Nat.mul n bytes) 140737488355328)) (Nat.ble n 140737488355328)
noncomputable def wMkFn (f:FuncId) (cs:List Z) (m:Mem) (F:KF):RR:=F (.clo f [] cs) m
noncomputable def wMkB (f:FuncId) (x:Z) (m:Mem) (F:KF):RR:=zPtr x λr j=>F (.clo f (.cons (.ptr r j) .nil) []) m
noncomputable def wBox (T:TypeId) (x:Z) (m:Mem) (F:KF):RR:=zCells x λcs=>mnew (.ob T true cs) m λq m=>F (.ptr q 0) m
noncomputable def wAlloc (T:TypeId) (zs:List Z) (m:Mem) (F:KF):RR:=mnew (.ob T true zs) m λq m=>F (.ptr q 0) m
noncomputable def cellsV (w:Option Nat) (xs:List Z):(List Z->RR)->RR:= @List.rec Z (λ_=>(List Z->RR)->RR) (λf=>f [])
 (λz _ ih f=> @Option.rec Nat (λ_=>RR) (zCell z (ih λl=>f (.cons z l))) (λn=>zAgg z λvs=> @Bool.rec (λ_=>RR) .bad (ih λl=>f (appL vs l)) (Nat.beq (lenL vs) n)) w) xs
noncomputable def wMkSl (T:TypeId) (sz:Option Nat) (xs:List Z) (m:Mem) (F:KF):RR:=cellsV sz xs λl=>mnew (.ob T true l) m λq m=>F (.sl q 0 (lenL xs) (widthK sz)) m
noncomputable def fillV (ps:List (Nat × Nat × Z)):List Z->(List Z->RR)->RR:= @List.rec (Nat × Nat × Z) (λ_=>List Z->(List Z->RR)->RR) (λzs f=>f zs) (λp _ ih zs f=>zCells p.2.2 λcs=> @Bool.rec (λ_=>RR) .bad (patK zs p.1 cs λzs=>ih zs f) (Nat.beq (lenL cs) p.2.1)) ps
noncomputable def wBuild (zs:List Z) (ps:List (Nat × Nat × Z)) (m:Mem) (F:KF):RR:=fillV ps zs λl=>F (.agg l) m
noncomputable def wMm (mx:Bool) (x y:Z) (m:Mem) (F:KF):RR:=zInt x λk1 a=>zInt y λk2 b=> @Bool.rec (λ_=>RR) (F (.i k1 a) m) (F (.i k1 b) m) (@Bool.rec (λ_=>Bool) (ltI b a) (ltI a b) mx)
noncomputable def vlo (x:Option Z) (f:Nat->RR):RR:= @Option.rec Z (λ_=>RR) (f 0) (λz=>zNat z f) x
noncomputable def vhi (x:Option Z) (n:Nat) (f:Nat->RR):RR:= @Option.rec Z (λ_=>RR) (f n) (λz=>zNat z f) x
noncomputable def wSlice (w0:Nat) (x:Z) (lo hi:Option Z) (m:Mem) (F:KF):RR:=zSlN x (vlo lo λl=>vhi hi 0 λh=> @Bool.rec (λ_=>RR) .bad (@Bool.rec (λ_=>RR) .bad (F .nil m) (Nat.beq h 0)) (Nat.beq l 0)) λr o n w=>
 vlo lo λl=>vhi hi n λh=> @Bool.rec (λ_=>RR) .bad (roomK r o h w n m (@Bool.rec (λ_=>RR) .bad (frc (Nat.add o (Nat.mul l w)) λo=>frc (Nat.sub h l) λn=>F (.sl r o n w) m) (Nat.beq w0 w))) (Nat.ble l h)
noncomputable def wSliceS (x:Z) (lo hi:Option Z) (m:Mem) (F:KF):RR:=zStr x λt=>frc (lenB t.data.toList) λn=>
 vlo lo λl=>vhi hi n λh=> @Bool.rec (λ_=>RR) .bad (@Bool.rec (λ_=>RR) .bad (F (.s (mkS (subB t.data.toList l (Nat.sub h l)))) m) (Nat.ble h n)) (Nat.ble l h)
noncomputable def wAppend (T:TypeId) (w0 bytes:Nat) (x y:Z) (m:Mem) (F:KF):RR:=elemsK w0 y m λnews q=>zSlN x (@Bool.rec (λ_=>RR) (fits47 q bytes (mnew (.ob T false news) m λr m=>F (.sl r 0 q w0) m)) (F .nil m) (Nat.beq q 0))
 λr o n w=>oOb (mget r m) λT' fx cs=> @Bool.rec (λ_=>RR) (@Bool.rec (λ_=>RR) .bad (@Bool.rec (λ_=>RR) .bad (frc (Nat.add n q) λnq=>fits47 nq bytes (@Bool.rec (λ_=>RR)
  (@Bool.rec (λ_=>RR) (@Bool.rec (λ_=>RR) .bad (takK cs (Nat.mul n w) λpre=>mnew (.ob T false (appL pre news)) (mset r .none m) λr m=>F (.sl r 0 nq w) m) (Nat.beq o 0))
   (subK cs o (Nat.mul n w) λpre=>mnew (.ob T false (appL pre news)) m λr m=>F (.sl r 0 nq w) m) fx)
  (patK cs (Nat.add o (Nat.mul n w)) news λl=>F (.sl r o nq w) (mset r (.some (.ob T fx l)) m)) (Nat.ble (Nat.add o (Nat.mul nq w)) (lenL cs)))) (Nat.beq T' T)) (Nat.beq w w0))
  (F (.sl r o n w) m) (Nat.beq q 0)
noncomputable def wCopy (w0:Nat) (x y:Z) (m:Mem) (F:KF):RR:=elemsK w0 y m λnews q=>zSl x λr o n w=>oOb (mget r m) λT fx cs=> @Bool.rec (λ_=>RR) .bad
 (subK cs o (Nat.mul n w) λ_=>frc (minN q n) λmn=>takK news (Nat.mul mn w) λl=>patK cs o l λl=>F (.i .i64 (.ofNat mn)) (mset r (.some (.ob T fx l)) m)) (Nat.beq w w0)
noncomputable def wCall (f:Z) (as:List Z) (s:SL) (m:Mem) (c:CallK) (F:KF):RR:=zCloY f
 (λid a b=> @RR.rec (λ_=>RR) .bad (λzs ups news=>upsK ups m λm=>newsK news m λm=>F (packK zs) m) (λv dt=>dropK dt m λm=>callP c s m v) (callF c id m (appL a (appL as b))))
 λq=> @RR.rec (λ_=>RR) .bad (λzs ups news=>upsK ups m λm=>newsK news m λm=>F (packK zs) m) (λ_ _=>.bad) (callY c q m as)
noncomputable def wIsNil (neg:Bool) (x:Z) (m:Mem) (F:KF):RR:=zNilC x (F (.b (notB neg)) m) (F (.b neg) m)
noncomputable def wIsNul (q:Nul) (neg:Bool) (x:Z) (m:Mem) (F:KF):RR:=zNul x (λq'=> @Bool.rec (λ_=>RR) .bad (F (.b (notB neg)) m) (Nat.beq (nc q') (nc q))) (@Bool.rec (λ_=>RR) .bad (F (.b neg) m) (Nat.beq (nc .ptr) (nc q)))
 (@Bool.rec (λ_=>RR) .bad (F (.b neg) m) (Nat.beq (nc .iface) (nc q))) (@Bool.rec (λ_=>RR) .bad (F (.b neg) m) (Nat.beq (nc .func) (nc q)))
noncomputable def wChk (x:Z) (m:Mem) (F:KF):RR:=zChk x (F x m)
noncomputable def wIdxA (n:Nat) (x i:Z) (m:Mem) (F:KF):RR:=zPtr x λr j=>zNat i λq=> @Bool.rec (λ_=>RR) .bad (frc (Nat.add j q) λq=>F (.ptr r q) m) (Nat.ble (Nat.succ q) n)
noncomputable def wIdxV (n:Nat) (x i:Z) (m:Mem) (F:KF):RR:=zAgg x λcs=>zNat i λq=> @Bool.rec (λ_=>RR) .bad (@Bool.rec (λ_=>RR) .bad (nthK cs q λz=>F z m) (Nat.ble (Nat.succ q) n)) (Nat.beq (lenL cs) n)
noncomputable def wSliceA (n:Nat) (x:Z) (lo hi:Option Z) (m:Mem) (F:KF):RR:=zPtr x λr j=>vlo lo λl=>vhi hi n λh=>oOb (mget r m) λ_ fx cs=> @Bool.rec (λ_=>RR) .bad (@Bool.rec (λ_=>RR) .bad (@Bool.rec (λ_=>RR) .bad (@Bool.rec (λ_=>RR) .bad (@Bool.rec (λ_=>RR) .bad
 (frc (Nat.sub h l) λq=>F (.sl r l q 1) m) (Nat.ble h n)) (Nat.ble l h)) (Nat.beq (lenL cs) n)) (Nat.beq j 0)) fx
noncomputable def wNew (x:XN) (s:SL) (m:Mem) (F:KF):RR:=altK (xalt (evK s) (mabs m) m.nx x) λz δ=>frcZ z λz=>appD δ m λm=>F z m
noncomputable def wPan (x:Z) (s:SL) (m:Mem) (c:CallK):RR:=panK x λv=>callP c s m v
noncomputable def wGuard (g:Z) (w:Bool) (m:Mem) (A:KF->RR) (B:KF):RR:=zG g w (A B) (B (.tup []) m)

noncomputable def mapX (s:SL) (xs:List SX):List Z:= @List.rec SX (λ_=>List Z) [] (λx _ ih=>.cons (evK s x) ih) xs
noncomputable def mapP (s:SL) (ps:List (Nat × Nat × SX)):List (Nat × Nat × Z):= @List.rec (Nat × Nat × SX) (λ_=>List (Nat × Nat × Z)) [] (λp _ ih=>.cons (p.1,p.2.1,evK s p.2.2) ih) ps
noncomputable def mapO (s:SL) (x:Option SX):Option Z:= @Option.rec SX (λ_=>Option Z) none (λx=>some (evK s x)) x
/-- An operation by its operands' values. -/
noncomputable def vso (o:SO) (s:SL) (m:Mem) (c:CallK) (F:KF):RR:=
 @SO.rec (λ_=>RR) (λx=>F (evK s x) m) (λt x y=>wPick (evK s t) (evK s x) (evK s y) m F) (λT x=>wBox T (evK s x) m F) (λT zs=>wAlloc T (zs.map vz1) m F) (λzs ps=>wBuild (zs.map vz1) (mapP s ps) m F)
  (λT sz xs=>wMkSl T sz (mapX s xs) m F) (λsz x=> @Option.rec Nat (λ_=>RR) (wLoad1 (evK s x) m F) (λn=>wLoad n (evK s x) m F) sz) (λsz x y=> @Option.rec Nat (λ_=>RR) (wStore1 (evK s x) (evK s y) m F) (λn=>wStore n (evK s x) (evK s y) m F) sz)
  (λop x y=> @AS.rec (λ_=>RR) (λa b=>wBin a b (evK s x) (evK s y) m F) (arS op)) (λneg x y=>wEqb neg (evK s x) (evK s y) m F)
  (λop x=> @UnOp.rec (λ_=>RR) (wNeg (evK s x) m F) .bad (wNot (evK s x) m F) .bad op) (λk x=>wConv k (evK s x) m F) (λ_=>.bad) (λ_=>.bad) (λf xs=>wMkFn f (mapX s xs) m F) (λf x=>wMkB f (evK s x) m F)
  (λT sz z bytes l=>wMake T (widthK sz) (Z.cells (vz z)) bytes (evK s l) m F) (λsz x lo hi=> @Option.rec (Option Nat) (λ_=>RR) (wSliceS (evK s x) (mapO s lo) (mapO s hi) m F) (λsz=>wSlice (widthK sz) (evK s x) (mapO s lo) (mapO s hi) m F) sz)
  (λoff _ x=>wFAddr off (evK s x) m F) (λoff sz x=> @Option.rec Nat (λ_=>RR) (wField1 off (evK s x) m F) (λn=>wField off n (evK s x) m F) sz) (λsz x i=>wIdx (widthK sz) (evK s x) (evK s i) m F) (λx i=>wIndex (evK s x) (evK s i) m F)
  (λx j=>wExt (evK s x) j m F) (λx=>wChk (evK s x) m F) (λf xs=>wCall (evK s f) (mapX s xs) s m c F) (λstr x=> @Bool.rec (λ_=>RR) (wLen (evK s x) m F) (wLenS (evK s x) m F) str)
  (λT sz bytes x y=>wAppend T (widthK sz) bytes (evK s x) (evK s y) m F) (λ_ _ _ _ _ _=>.bad) (λsz x y=>wCopy (widthK sz) (evK s x) (evK s y) m F) (λmx x y=>wMm mx (evK s x) (evK s y) m F)
  (λ_ _=>F .nil m) (λneg x=>wIsNil neg (evK s x) m F) (λq neg x=>wIsNul q neg (evK s x) m F) (λT x=>F (.ifc T (evK s x)) m) (λzs ps=>wBuild (zs.map vz1) (mapP s ps) m F) (λT zs=>wAlloc T (zs.map vz1) m F) (λT _ x=>wBox T (evK s x) m F)
  (λn x i=>wIdxA n (evK s x) (evK s i) m F) (λn x lo hi=>wSliceA n (evK s x) (mapO s lo) (mapO s hi) m F) (λn x=>wLoad n (evK s x) m F) (λn x y=>wStore n (evK s x) (evK s y) m F) (λn x i=>wIdxV n (evK s x) (evK s i) m F) (F (.nul .func) m) .bad o
noncomputable def vop (o:XO) (s:SL) (m:Mem) (c:CallK) (F:KF):RR:= @XO.rec (λ_=>RR) (λso=>vso so s m c F) (λx=>wNew x s m F) (λx=>wPan (evK s x) s m c) .bad o
noncomputable def puK (d:Option Nat) (z:Z) (s:SL):SL:= @GP.rec (λ_=>SL) s (λp=>p z s) (gp d)
noncomputable def runV (k:Kont) (c:CallK) (ops:List XOp):SL->Mem->RR:= @List.rec XOp (λ_=>SL->Mem->RR) (λs m=>k s m c)
 (λo _ ih s m=> @XOp.rec (λ_=>RR) (λd o g=> @Option.rec (Nat × Bool) (λ_=>RR) (vop o s m c λz m=>ih (puK d z s) m)
  (λg=> @Prod.rec Nat Bool (λ_=>RR) (λg w=>wGuard (evK s (.t g)) w m (λF=>vop o s m (noP c) F) λz m=>ih (puK d z s) m) g) g) o) ops

theorem evK_gx {x:SX} {g:Gt} (h:gx x= .mk g) (s:SL):evK s x=g s:=by unfold evK; rw [h]
theorem gx_ex (x:SX):∃ g,gx x= .mk g:=by obtain ⟨g,h,_⟩:=gx_ok x; exact ⟨g,h⟩
theorem evs_map (s:SL):∀ xs:List SX,evs (gxs xs) s=mapX s xs
 | []=>rfl
 | x::xs=>by
  obtain ⟨g,hg⟩:=gx_ex x;have e:gxs (x::xs)= .cons g (gxs xs):=by show @GX.rec (λ_=>GL) (λg=>.cons g (gxs xs)) (gx x)=_; rw [hg]
  rw [e];show g s::evs (gxs xs) s=evK s x::mapX s xs;rw [evs_map s xs,evK_gx hg]
theorem lenG_map (s:SL):∀ xs:List SX,lenG (gxs xs)=lenL (mapX s xs)
 | []=>rfl
 | x::xs=>by
  obtain ⟨g,hg⟩:=gx_ex x;have e:gxs (x::xs)= .cons g (gxs xs):=by show @GX.rec (λ_=>GL) (λg=>.cons g (gxs xs)) (gx x)=_; rw [hg]
  rw [e];show Nat.succ (lenG (gxs xs))=Nat.succ (lenL (mapX s xs));rw [lenG_map s xs]
theorem cells_map (w:Option Nat) (s:SL):∀ (xs:List SX) (f:List Z->RR),cellsK w (gxs xs) s f=cellsV w (mapX s xs) f
 | [],f=>rfl
 | x::xs,f=>by
  obtain ⟨g,hg⟩:=gx_ex x;have e:gxs (x::xs)= .cons g (gxs xs):=by show @GX.rec (λ_=>GL) (λg=>.cons g (gxs xs)) (gx x)=_; rw [hg]
  rw [e];have hv:=evK_gx hg s;cases w with
  | none=>
   show zCell (g s) (cellsK none (gxs xs) s λl=>f (.cons (g s) l))=zCell (evK s x) (cellsV none (mapX s xs) λl=>f (.cons (evK s x) l));rw [hv,cells_map none s xs]
  | some n=>
   show zAgg (g s) (λvs=> @Bool.rec (λ_=>RR) .bad (cellsK (some n) (gxs xs) s λl=>f (appL vs l)) (Nat.beq (lenL vs) n))=zAgg (evK s x) λvs=> @Bool.rec (λ_=>RR) .bad (cellsV (some n) (mapX s xs) λl=>f (appL vs l)) (Nat.beq (lenL vs) n);rw [hv];congr 1; funext vs;rw [cells_map (some n) s xs]
theorem fill_map (s:SL):∀ (ps:List (Nat × Nat × SX)) (zs:List Z) (f:List Z->RR),fillK (gps ps) s zs f=fillV (mapP s ps) zs f
 | [],zs,f=>rfl
 | (off,n,x)::ps,zs,f=>by
  obtain ⟨g,hg⟩:=gx_ex x;have e:gps ((off,n,x)::ps)= .cons off n g (gps ps):=by show @GX.rec (λ_=>PL) (λg=>.cons off n g (gps ps)) (gx x)=_; rw [hg]
  rw [e];show zCells (g s) (λcs=> @Bool.rec (λ_=>RR) .bad (patK zs off cs λzs=>fillK (gps ps) s zs f) (Nat.beq (lenL cs) n))=zCells (evK s x) λcs=> @Bool.rec (λ_=>RR) .bad (patK zs off cs λzs=>fillV (mapP s ps) zs f) (Nat.beq (lenL cs) n);rw [evK_gx hg];congr 1; funext cs;congr 1;congr 1; funext zs;exact fill_map s ps zs f
theorem lo_map (s:SL) (x:Option SX) (f:Nat->RR):bdL x s 0 f=vlo (mapO s x) f:=by
 cases x with
 | none=>rfl
 | some x=>
  obtain ⟨g,hg⟩:=gx_ex x;show (@GX.rec (λ_=>Bd) bdN (gx x)) s 0 f=zNat (evK s x) f;rw [hg,evK_gx hg]; rfl
theorem lo_map' (s:SL) (n:Nat) (x:Option SX) (f:Nat->RR):bdL x s n f=vlo (mapO s x) f:=by
 cases x with
 | none=>rfl
 | some x=>
  obtain ⟨g,hg⟩:=gx_ex x;show (@GX.rec (λ_=>Bd) bdN (gx x)) s n f=zNat (evK s x) f;rw [hg,evK_gx hg]; rfl
theorem hi_map (s:SL) (n:Nat) (x:Option SX) (f:Nat->RR):bdH x s n f=vhi (mapO s x) n f:=by
 cases x with
 | none=>rfl
 | some x=>
  obtain ⟨g,hg⟩:=gx_ex x;show (@GX.rec (λ_=>Bd) bdN (gx x)) s n f=zNat (evK s x) f;rw [hg,evK_gx hg]; rfl
end Go.Zw
namespace Go.Zw
open Go.Vw (Nul V SX SO SRes width)

theorem g1_mk {x:SX} {g:Gt} (h:gx x= .mk g) (f:Gt->FO):g1 x f=f g:=by unfold g1; rw [h]
theorem gd_mk {d:Option Nat} {p:Pt} (h:gp d= .mk p) (f:Pt->FO):gd d f=f p:=by unfold gd; rw [h]
/-- The staged operation F is f by values. -/
def VOK (p:Pt) (r:FO) (f:SL->Mem->CallK->KF->RR):Prop:=∃ F,r= .mk F/\∀ k s m c,F k s m c=f s m c (λz m=>k (p z s) m c)
theorem vbad (p:Pt) (d:Option Nat):VOK p (fBad d) (λ_ _ _ _=>.bad):=⟨xBad,rfl,λ_ _ _ _=>rfl⟩
section
variable {d:Option Nat} {p:Pt} (hp:gp d= .mk p)
include hp

theorem vMv (x:SX):VOK p (kMv x d) λs m c F=>F (evK s x) m:=by
 obtain ⟨g,hx⟩:=gx_ex x;refine ⟨xMv g p,by unfold kMv; rw [g1_mk hx,gd_mk hp],λk s m c=>?_⟩;show _=(_:RR); simp only [evK_gx hx]; rfl

theorem vPick (t x y:SX):VOK p (kPick t x y d) λs m c F=>wPick (evK s t) (evK s x) (evK s y) m F:=by
 obtain ⟨gt,ht⟩:=gx_ex t;obtain ⟨g,hx⟩:=gx_ex x;obtain ⟨gy,hy⟩:=gx_ex y;refine ⟨xPick gt g gy p,by unfold kPick; rw [g1_mk ht,g1_mk hx,g1_mk hy,gd_mk hp],λk s m c=>?_⟩;show _=(_:RR); simp only [evK_gx ht,evK_gx hx,evK_gx hy]; rfl

theorem vBox (T:TypeId) (x:SX):VOK p (kBox T x d) λs m c F=>wBox T (evK s x) m F:=by
 obtain ⟨g,hx⟩:=gx_ex x;refine ⟨xBox T g p,by unfold kBox; rw [g1_mk hx,gd_mk hp],λk s m c=>?_⟩;show _=(_:RR); simp only [evK_gx hx]; rfl

theorem vAlloc (T:TypeId) (zs:List V):VOK p (kAlloc T zs d) λs m c F=>wAlloc T (zs.map vz1) m F:=by
 refine ⟨xAlloc T (zs.map vz1) p,by unfold kAlloc; rw [gd_mk hp],λk s m c=>?_⟩;rfl

theorem vEqb (neg:Bool) (x y:SX):VOK p (kEqb neg x y d) λs m c F=>wEqb neg (evK s x) (evK s y) m F:=by
 obtain ⟨g,hx⟩:=gx_ex x;obtain ⟨gy,hy⟩:=gx_ex y;refine ⟨xEqb neg g gy p,by unfold kEqb; rw [g1_mk hx,g1_mk hy,gd_mk hp],λk s m c=>?_⟩;show _=(_:RR); simp only [evK_gx hx,evK_gx hy]; rfl

theorem vConv (k:IntKind) (x:SX):VOK p (kConv k x d) λs m c F=>wConv k (evK s x) m F:=by
 obtain ⟨g,hx⟩:=gx_ex x;refine ⟨xConv k g p,by unfold kConv; rw [g1_mk hx,gd_mk hp],λk s m c=>?_⟩;show _=(_:RR); simp only [evK_gx hx]; rfl

theorem vMkB (f:FuncId) (x:SX):VOK p (kMkB f x d) λs m c F=>wMkB f (evK s x) m F:=by
 obtain ⟨g,hx⟩:=gx_ex x;refine ⟨xMkB f g p,by unfold kMkB; rw [g1_mk hx,gd_mk hp],λk s m c=>?_⟩;show _=(_:RR); simp only [evK_gx hx]; rfl

theorem vMake (T:TypeId) (sz:Option Nat) (z:V) (bytes:Nat) (x:SX):VOK p (kMake T sz z bytes x d) λs m c F=>wMake T (widthK sz) (Z.cells (vz z)) bytes (evK s x) m F:=by
 obtain ⟨g,hx⟩:=gx_ex x;refine ⟨xMake T (widthK sz) (Z.cells (vz z)) bytes g p,by unfold kMake; rw [g1_mk hx,gd_mk hp],λk s m c=>?_⟩;show _=(_:RR); simp only [evK_gx hx]; rfl

theorem vFAddr (off:Nat) (q:Option Nat) (x:SX):VOK p (kFAddr off q x d) λs m c F=>wFAddr off (evK s x) m F:=by
 obtain ⟨g,hx⟩:=gx_ex x;refine ⟨xFAddr off g p,by unfold kFAddr; rw [g1_mk hx,gd_mk hp],λk s m c=>?_⟩;show _=(_:RR); simp only [evK_gx hx]; rfl

theorem vIdx (sz:Option Nat) (x y:SX):VOK p (kIdx sz x y d) λs m c F=>wIdx (widthK sz) (evK s x) (evK s y) m F:=by
 obtain ⟨g,hx⟩:=gx_ex x;obtain ⟨gy,hy⟩:=gx_ex y;refine ⟨xIdx (widthK sz) g gy p,by unfold kIdx; rw [g1_mk hx,g1_mk hy,gd_mk hp],λk s m c=>?_⟩;show _=(_:RR); simp only [evK_gx hx,evK_gx hy]; rfl

theorem vIndex (x y:SX):VOK p (kIndex x y d) λs m c F=>wIndex (evK s x) (evK s y) m F:=by
 obtain ⟨g,hx⟩:=gx_ex x;obtain ⟨gy,hy⟩:=gx_ex y;refine ⟨xIndex g gy p,by unfold kIndex; rw [g1_mk hx,g1_mk hy,gd_mk hp],λk s m c=>?_⟩;show _=(_:RR); simp only [evK_gx hx,evK_gx hy]; rfl

theorem vExt (x:SX) (j:Nat):VOK p (kExt x j d) λs m c F=>wExt (evK s x) j m F:=by
 obtain ⟨g,hx⟩:=gx_ex x;refine ⟨xExt g j p,by unfold kExt; rw [g1_mk hx,gd_mk hp],λk s m c=>?_⟩;show _=(_:RR); simp only [evK_gx hx]; rfl

theorem vChk (x:SX):VOK p (kChk x d) λs m c F=>wChk (evK s x) m F:=by
 obtain ⟨g,hx⟩:=gx_ex x;refine ⟨xChk g p,by unfold kChk; rw [g1_mk hx,gd_mk hp],λk s m c=>?_⟩;show _=(_:RR); simp only [evK_gx hx]; rfl

theorem vAppend (T:TypeId) (sz:Option Nat) (bytes:Nat) (x y:SX):VOK p (kAppend T sz bytes x y d) λs m c F=>wAppend T (widthK sz) bytes (evK s x) (evK s y) m F:=by
 obtain ⟨g,hx⟩:=gx_ex x;obtain ⟨gy,hy⟩:=gx_ex y;refine ⟨xAppend T (widthK sz) bytes g gy p,by unfold kAppend; rw [g1_mk hx,g1_mk hy,gd_mk hp],λk s m c=>?_⟩;show _=(_:RR); simp only [evK_gx hx,evK_gx hy]; rfl

theorem vCopy (sz:Option Nat) (x y:SX):VOK p (kCopy sz x y d) λs m c F=>wCopy (widthK sz) (evK s x) (evK s y) m F:=by
 obtain ⟨g,hx⟩:=gx_ex x;obtain ⟨gy,hy⟩:=gx_ex y;refine ⟨xCopy (widthK sz) g gy p,by unfold kCopy; rw [g1_mk hx,g1_mk hy,gd_mk hp],λk s m c=>?_⟩;show _=(_:RR); simp only [evK_gx hx,evK_gx hy]; rfl

theorem vMm (mx:Bool) (x y:SX):VOK p (kMm mx x y d) λs m c F=>wMm mx (evK s x) (evK s y) m F:=by
 obtain ⟨g,hx⟩:=gx_ex x;obtain ⟨gy,hy⟩:=gx_ex y;refine ⟨xMm mx g gy p,by unfold kMm; rw [g1_mk hx,g1_mk hy,gd_mk hp],λk s m c=>?_⟩;show _=(_:RR); simp only [evK_gx hx,evK_gx hy]; rfl

theorem vZ (z:Z):VOK p (kZ z d) λs m c F=>F z m:=by
 refine ⟨xK z p,by unfold kZ; rw [gd_mk hp],λk s m c=>?_⟩;rfl

theorem vIsNil (neg:Bool) (x:SX):VOK p (kIsNil neg x d) λs m c F=>wIsNil neg (evK s x) m F:=by
 obtain ⟨g,hx⟩:=gx_ex x;refine ⟨xIsNil neg g p,by unfold kIsNil; rw [g1_mk hx,gd_mk hp],λk s m c=>?_⟩;show _=(_:RR); simp only [evK_gx hx]; rfl

theorem vIsNul (q:Nul) (neg:Bool) (x:SX):VOK p (kIsNul q neg x d) λs m c F=>wIsNul q neg (evK s x) m F:=by
 obtain ⟨g,hx⟩:=gx_ex x;refine ⟨xIsNul q neg g p,by unfold kIsNul; rw [g1_mk hx,gd_mk hp],λk s m c=>?_⟩;show _=(_:RR); simp only [evK_gx hx]; rfl

theorem vMkI (T:TypeId) (x:SX):VOK p (kMkI T x d) λs m c F=>F (.ifc T (evK s x)) m:=by
 obtain ⟨g,hx⟩:=gx_ex x;refine ⟨xMkI T g p,by unfold kMkI; rw [g1_mk hx,gd_mk hp],λk s m c=>?_⟩;show _=(_:RR); simp only [evK_gx hx]; rfl

theorem vIdxA (n:Nat) (x y:SX):VOK p (kIdxA n x y d) λs m c F=>wIdxA n (evK s x) (evK s y) m F:=by
 obtain ⟨g,hx⟩:=gx_ex x;obtain ⟨gy,hy⟩:=gx_ex y;refine ⟨xIdxA n g gy p,by unfold kIdxA; rw [g1_mk hx,g1_mk hy,gd_mk hp],λk s m c=>?_⟩;show _=(_:RR); simp only [evK_gx hx,evK_gx hy]; rfl

theorem vLoadA (n:Nat) (x:SX):VOK p (kLoadA n x d) λs m c F=>wLoad n (evK s x) m F:=by
 obtain ⟨g,hx⟩:=gx_ex x;refine ⟨xLoad n g p,by unfold kLoadA; rw [g1_mk hx,gd_mk hp],λk s m c=>?_⟩;show _=(_:RR); simp only [evK_gx hx]; rfl

theorem vStoreA (n:Nat) (x y:SX):VOK p (kStoreA n x y d) λs m c F=>wStore n (evK s x) (evK s y) m F:=by
 obtain ⟨g,hx⟩:=gx_ex x;obtain ⟨gy,hy⟩:=gx_ex y;refine ⟨xStore n g gy p,by unfold kStoreA; rw [g1_mk hx,g1_mk hy,gd_mk hp],λk s m c=>?_⟩;show _=(_:RR); simp only [evK_gx hx,evK_gx hy]; rfl

theorem vIdxV (n:Nat) (x y:SX):VOK p (kIdxV n x y d) λs m c F=>wIdxV n (evK s x) (evK s y) m F:=by
 obtain ⟨g,hx⟩:=gx_ex x;obtain ⟨gy,hy⟩:=gx_ex y;refine ⟨xIdxV n g gy p,by unfold kIdxV; rw [g1_mk hx,g1_mk hy,gd_mk hp],λk s m c=>?_⟩;show _=(_:RR); simp only [evK_gx hx,evK_gx hy]; rfl

theorem vLen (x:SX):VOK p (kLen false x d) λs m c F=>wLen (evK s x) m F:=by
 obtain ⟨g,hx⟩:=gx_ex x;refine ⟨xLen g p,by unfold kLen; rw [g1_mk hx,gd_mk hp],λk s m c=>?_⟩;show _=(_:RR); simp only [evK_gx hx]; rfl

theorem vLenS (x:SX):VOK p (kLen true x d) λs m c F=>wLenS (evK s x) m F:=by
 obtain ⟨g,hx⟩:=gx_ex x;refine ⟨xLenS g p,by unfold kLen; rw [g1_mk hx,gd_mk hp],λk s m c=>?_⟩;show _=(_:RR); simp only [evK_gx hx]; rfl

theorem vLoad1 (x:SX):VOK p (kLoad none x d) λs m c F=>wLoad1 (evK s x) m F:=by
 obtain ⟨g,hx⟩:=gx_ex x;refine ⟨xLoad1 g p,by unfold kLoad; rw [g1_mk hx,gd_mk hp],λk s m c=>?_⟩;show _=(_:RR); simp only [evK_gx hx]; rfl

theorem vLoadN (n:Nat) (x:SX):VOK p (kLoad (some n) x d) λs m c F=>wLoad n (evK s x) m F:=by
 obtain ⟨g,hx⟩:=gx_ex x;refine ⟨xLoad n g p,by unfold kLoad; rw [g1_mk hx,gd_mk hp],λk s m c=>?_⟩;show _=(_:RR); simp only [evK_gx hx]; rfl

theorem vStore1 (x y:SX):VOK p (kStore none x y d) λs m c F=>wStore1 (evK s x) (evK s y) m F:=by
 obtain ⟨g,hx⟩:=gx_ex x;obtain ⟨gy,hy⟩:=gx_ex y;refine ⟨xStore1 g gy p,by unfold kStore; rw [g1_mk hx,g1_mk hy,gd_mk hp],λk s m c=>?_⟩;show _=(_:RR); simp only [evK_gx hx,evK_gx hy]; rfl

theorem vStoreN (n:Nat) (x y:SX):VOK p (kStore (some n) x y d) λs m c F=>wStore n (evK s x) (evK s y) m F:=by
 obtain ⟨g,hx⟩:=gx_ex x;obtain ⟨gy,hy⟩:=gx_ex y;refine ⟨xStore n g gy p,by unfold kStore; rw [g1_mk hx,g1_mk hy,gd_mk hp],λk s m c=>?_⟩;show _=(_:RR); simp only [evK_gx hx,evK_gx hy]; rfl

theorem vField1 (off:Nat) (x:SX):VOK p (kField off none x d) λs m c F=>wField1 off (evK s x) m F:=by
 obtain ⟨g,hx⟩:=gx_ex x;refine ⟨xField1 off g p,by unfold kField; rw [g1_mk hx,gd_mk hp],λk s m c=>?_⟩;show _=(_:RR); simp only [evK_gx hx]; rfl

theorem vFieldN (off n:Nat) (x:SX):VOK p (kField off (some n) x d) λs m c F=>wField off n (evK s x) m F:=by
 obtain ⟨g,hx⟩:=gx_ex x;refine ⟨xField off n g p,by unfold kField; rw [g1_mk hx,gd_mk hp],λk s m c=>?_⟩;show _=(_:RR); simp only [evK_gx hx]; rfl

theorem vNeg (x:SX):VOK p (kUn .neg x d) λs m c F=>wNeg (evK s x) m F:=by
 obtain ⟨g,hx⟩:=gx_ex x;refine ⟨xNeg g p,by unfold kUn; rw [g1_mk hx,gd_mk hp],λk s m c=>?_⟩;show _=(_:RR); simp only [evK_gx hx]; rfl

theorem vNot (x:SX):VOK p (kUn .not x d) λs m c F=>wNot (evK s x) m F:=by
 obtain ⟨g,hx⟩:=gx_ex x;refine ⟨xNot g p,by unfold kUn; rw [g1_mk hx,gd_mk hp],λk s m c=>?_⟩;show _=(_:RR); simp only [evK_gx hx]; rfl

theorem vBin (op:BinOp) (x y:SX):VOK p (kBin op x y d) λs m c F=> @AS.rec (λ_=>RR) (λa b=>wBin a b (evK s x) (evK s y) m F) (arS op):=by
 obtain ⟨g,hx⟩:=gx_ex x;obtain ⟨gy,hy⟩:=gx_ex y;obtain ⟨a,b,hab⟩:∃ a b,arS op= .mk a b:=by cases op<;>exact ⟨_,_,rfl⟩
 refine ⟨xBin a b g gy p,by unfold kBin gar; rw [g1_mk hx,g1_mk hy,gd_mk hp,hab],λk s m c=>?_⟩;simp only [hab,evK_gx hx,evK_gx hy]; rfl
theorem vUn (op:UnOp) (x:SX):VOK p (kUn op x d) λs m c F=> @UnOp.rec (λ_=>RR) (wNeg (evK s x) m F) .bad (wNot (evK s x) m F) .bad op:=by
 obtain ⟨g,hx⟩:=gx_ex x;cases op
 . exact vNeg hp x
 . exact ⟨xBad,by unfold kUn; rw [g1_mk hx,gd_mk hp],λ_ _ _ _=>rfl⟩
 . exact vNot hp x
 . exact ⟨xBad,by unfold kUn; rw [g1_mk hx,gd_mk hp],λ_ _ _ _=>rfl⟩
theorem vBuild (zs:List V) (ps:List (Nat × Nat × SX)):VOK p (kBuild zs ps d) λs m c F=>wBuild (zs.map vz1) (mapP s ps) m F:=
 ⟨xBuild (zs.map vz1) (gps ps) p,by unfold kBuild; rw [gd_mk hp],λk s m c=>fill_map s ps _ _⟩
theorem vMkSl (T:TypeId) (sz:Option Nat) (xs:List SX):VOK p (kMkSl T sz xs d) λs m c F=>wMkSl T sz (mapX s xs) m F:=
 ⟨xMkSl T sz (gxs xs) (lenG (gxs xs)) p,by unfold kMkSl; rw [gd_mk hp],λk s m c=>by
  show cellsK sz (gxs xs) s _=cellsV sz (mapX s xs) _;rw [cells_map,lenG_map s xs]⟩
theorem vMkFn (f:FuncId) (xs:List SX):VOK p (kMkFn f xs d) λs m c F=>wMkFn f (mapX s xs) m F:=
 ⟨xMkFn f (gxs xs) p,by unfold kMkFn; rw [gd_mk hp],λk s m c=>by
  show k (p (.clo f [] (evs (gxs xs) s)) s) m c=k (p (.clo f [] (mapX s xs)) s) m c;rw [evs_map]⟩
theorem vCall (f:SX) (xs:List SX):VOK p (kCall f xs d) λs m c F=>wCall (evK s f) (mapX s xs) s m c F:=by
 obtain ⟨g,hf⟩:=gx_ex f;refine ⟨xCall g (gxs xs) p,by unfold kCall; rw [g1_mk hf,gd_mk hp],λk s m c=>?_⟩;simp only [<- evs_map s xs,evK_gx hf];rfl
theorem vSlice (sz:Option (Option Nat)) (x:SX) (lo hi:Option SX):VOK p (kSlice sz x lo hi d) λs m c F=> @Option.rec (Option Nat) (λ_=>RR) (wSliceS (evK s x) (mapO s lo) (mapO s hi) m F) (λsz=>wSlice (widthK sz) (evK s x) (mapO s lo) (mapO s hi) m F) sz:=by
 obtain ⟨g,hx⟩:=gx_ex x;cases sz with
 | none=>
  refine ⟨xSliceS g (bdL lo) (bdH hi) p,by unfold kSlice; rw [g1_mk hx,gd_mk hp],λk s m c=>?_⟩;show xSliceS g (bdL lo) (bdH hi) p k s m c=wSliceS (evK s x) (mapO s lo) (mapO s hi) m λz m=>k (p z s) m c;unfold xSliceS wSliceS;simp only [lo_map',hi_map,evK_gx hx]
 | some sz=>
  refine ⟨xSlice (widthK sz) g (bdL lo) (bdH hi) p,by unfold kSlice; rw [g1_mk hx,gd_mk hp],λk s m c=>?_⟩;show xSlice (widthK sz) g (bdL lo) (bdH hi) p k s m c=wSlice (widthK sz) (evK s x) (mapO s lo) (mapO s hi) m λz m=>k (p z s) m c;unfold xSlice wSlice;simp only [lo_map',hi_map,evK_gx hx]
theorem vSliceA (n:Nat) (x:SX) (lo hi:Option SX):VOK p (kSliceA n x lo hi d) λs m c F=>wSliceA n (evK s x) (mapO s lo) (mapO s hi) m F:=by
 obtain ⟨g,hx⟩:=gx_ex x;refine ⟨xSliceA n g (bdL lo) (bdH hi) p,by unfold kSliceA; rw [g1_mk hx,gd_mk hp],λk s m c=>?_⟩;unfold xSliceA wSliceA;simp only [lo_map',hi_map,evK_gx hx]
theorem vso_ok (o:SO):VOK p (kso o d) (vso o):=by
 cases o with
 | mv x=>exact vMv hp x
 | pick t x y=>exact vPick hp t x y
 | box T x=>exact vBox hp T x
 | alloc T zs=>exact vAlloc hp T zs
 | build zs ps=>exact vBuild hp zs ps
 | mkSl T sz xs=>exact vMkSl hp T sz xs
 | load sz x=>cases sz with
  | none=>exact vLoad1 hp x
  | some n=>exact vLoadN hp n x
 | store sz x y=>cases sz with
  | none=>exact vStore1 hp x y
  | some n=>exact vStoreN hp n x y
 | bin op x y=>exact vBin hp op x y
 | eqb neg x y=>exact vEqb hp neg x y
 | un op x=>exact vUn hp op x
 | conv k x=>exact vConv hp k x
 | s2b x=>exact vbad p d
 | b2s x=>exact vbad p d
 | makeFn f xs=>exact vMkFn hp f xs
 | makeB f x=>exact vMkB hp f x
 | make T sz z bytes l=>exact vMake hp T sz z bytes l
 | slice sz x lo hi=>exact vSlice hp sz x lo hi
 | fieldAddr off q x=>exact vFAddr hp off q x
 | field off sz x=>cases sz with
  | none=>exact vField1 hp off x
  | some n=>exact vFieldN hp off n x
 | indexAddr sz x i=>exact vIdx hp sz x i
 | index x i=>exact vIndex hp x i
 | extract x j=>exact vExt hp x j
 | nilCheck x=>exact vChk hp x
 | call f xs=>exact vCall hp f xs
 | len str x=>cases str with
  | false=>exact vLen hp x
  | true=>exact vLenS hp x
 | append T sz bytes x y=>exact vAppend hp T sz bytes x y
 | appendZ _ _ _ _ _ _=>exact vbad p d
 | copy sz x y=>exact vCopy hp sz x y
 | mm mx x y=>exact vMm hp mx x y
 | nilSl _ _=>exact vZ hp .nil
 | isNil neg x=>exact vIsNil hp neg x
 | isNul q neg x=>exact vIsNul hp q neg x
 | mkI T x=>exact vMkI hp T x
 | buildA zs ps=>exact vBuild hp zs ps
 | allocA T zs=>exact vAlloc hp T zs
 | boxA T _ x=>exact vBox hp T x
 | idxA n x i=>exact vIdxA hp n x i
 | sliceA n x lo hi=>exact vSliceA hp n x lo hi
 | loadA n x=>exact vLoadA hp n x
 | storeA n x v=>exact vStoreA hp n x v
 | idxV n x i=>exact vIdxV hp n x i
 | nilFn=>exact vZ hp (.nul .func)
 | bad=>exact vbad p d
theorem vop_ok (o:XO):VOK p (kxo o d) (vop o):=by
 cases o with
 | o so=>exact vso_ok hp so
 | n x=>exact ⟨xNew x p,by show gd d _=_; rw [gd_mk hp],λk s m c=>rfl⟩
 | pan x=>
  obtain ⟨g,hx⟩:=gx_ex x;refine ⟨xPan g,by show kPan x d=_; unfold kPan; rw [g1_mk hx],λk s m c=>?_⟩;show panK (g s) _=panK (evK s x) _;rw [evK_gx hx]
 | bad=>exact vbad p d
end
def dstB (d:Option Nat):Bool:=match d with | some n=>Nat.ble n 511 | none=>true
noncomputable def dstsB (ops:List XOp):Bool:= @List.rec XOp (λ_=>Bool) true (λo _ ih=>andB (dstB o.dst) ih) ops
theorem gp_mk {d:Option Nat} (h:dstB d=true):∃ p,gp d= .mk p/\∀ z s,p z s=puK d z s:=by
 have:∃ p,gp d= .mk p:=by
  cases d with
  | none=>exact ⟨_,rfl⟩
  | some n=>
   have h:Nat.ble n 511=true:=h;show ∃ p,@Bool.rec (λ_=>GP) .bad (@Slo.rec (λ_=>GP) (λ_ p=>.mk p) (slot n)) (Nat.ble n 511)= .mk p;rw [h];cases slot n with
   | mk g p=>exact ⟨p,rfl⟩
 obtain ⟨p,hp⟩:=this;exact ⟨p,hp,λz s=>by unfold puK; rw [hp]⟩
/-- A region by values is the region. -/
theorem runV_eq (k:Kont) (c:CallK):∀ (ops:List XOp),dstsB ops=true->∀ s m,runV k c ops s m=run k (kops ops) s m c
 | [],_,s,m=>rfl
 | ⟨d,o,g⟩::ops,h,s,m=>by
  obtain ⟨h1,h2⟩:=andB_inv (show andB (dstB d) (dstsB ops)=true from h);obtain ⟨p,hp,hpu⟩:=gp_mk h1;obtain ⟨F,hF,hv⟩:=vop_ok hp o;cases g with
  | none=>
   have e:kops (⟨d,o,none⟩::ops)= .cons F (kops ops):=by show @FO.rec (λ_=>FL) (λf=>.cons f (kops ops)) (kxo o d)=_; rw [hF]
   rw [e];show vop o s m c (λz m=>runV k c ops (puK d z s) m)=F (run k (kops ops)) s m c;rw [hv];congr 1; funext z m;rw [hpu,runV_eq k c ops h2]
  | some g=>
   obtain ⟨g,w⟩:=g;obtain ⟨gt,hg⟩:=gx_ex (.t g);have e:kops (⟨d,o,some (g,w)⟩::ops)= .cons (xGuard gt w F p) (kops ops):=by
    show @FO.rec (λ_=>FL) (λf=>.cons f (kops ops)) (@FO.rec (λ_=>FO) (λf=>g1 (.t g) λg=>gd d λp=>.mk (xGuard g w f p)) (kxo o d))=_;rw [hF];show @FO.rec (λ_=>FL) (λf=>.cons f (kops ops)) (g1 (.t g) λg=>gd d λp=>.mk (xGuard g w F p))=_;rw [g1_mk hg,gd_mk hp]
   rw [e];show zG (evK s (.t g)) w (vop o s m (noP c) λz m=>runV k c ops (puK d z s) m) (runV k c ops (puK d (.tup []) s) m)=zG (gt s) w (F (λs m _=>run k (kops ops) s m c) s m (noP c)) (run k (kops ops) (p (.tup []) s) m c);rw [evK_gx hg,hv,runV_eq k c ops h2,hpu];congr 1;congr 1; funext z m;rw [hpu,runV_eq k c ops h2]
end Go.Zw
namespace Go.Zw
open Go.Vw (Nul V SX SO SRes width)

-- the groups of slots that a region touches
noncomputable def insN (g:Nat) (l:List Nat):List Nat:= @Bool.rec (λ_=>List Nat) (.cons g l) l (memN g l)
noncomputable def insT (t g:Nat) (l:List (Nat × List Nat)):List (Nat × List Nat):= @List.rec (Nat × List Nat) (λ_=>List (Nat × List Nat)) (.cons (t,.cons g .nil) .nil) (λp r ih=> @Bool.rec (λ_=>List (Nat × List Nat)) (.cons p ih) (.cons (p.1,insN g p.2) r) (Nat.beq p.1 t)) l
abbrev GT:=List (Nat × List Nat)
noncomputable def insG (n:Nat) (l:GT):GT:=insT (Nat.div n 64) (Nat.mod (Nat.div n 8) 8) l
noncomputable def insX (x:SX) (l:GT):GT:= @SX.rec (λ_=>GT) (λn=>insG n l) (λ_=>l) (λ_=>l) x
noncomputable def insXs (xs:List SX) (l:GT):GT:= @List.rec SX (λ_=>GT) l (λx _ ih=>insX x ih) xs
noncomputable def insO (x:Option Nat) (l:GT):GT:= @Option.rec Nat (λ_=>GT) l (λn=>insG n l) x
noncomputable def insP (x:Option (Nat × Bool)) (l:GT):GT:= @Option.rec (Nat × Bool) (λ_=>GT) l (λn=>insG n.1 l) x
noncomputable def grps (ops:List XOp):GT:= @List.rec XOp (λ_=>GT) [] (λo _ ih=>insO o.dst (insP o.guard (insXs o.op.opds ih))) ops
noncomputable def kRegV (ops:List XOp):CK:= @Bool.rec (λ_=>CK) (kReg (kops ops)) (λ_ k s m c=>splS (grps ops) (λs=>runV k c ops s m) s) (andB (dstsB ops) (allT (grps ops)))
theorem kRegV_eq (ops:List XOp):kRegV ops=kReg (kops ops):=by
 unfold kRegV;cases e:andB (dstsB ops) (allT (grps ops)) with
 | false=>rfl
 | true=>
  obtain ⟨h1,h2⟩:=andB_inv e;funext ex k s m c;show splS (grps ops) (λs=>runV k c ops s m) s=run k (kops ops) s m c;rw [splS_eq h2,runV_eq k c ops h1]
noncomputable def kcodeV (ent:FuncId->Bool) (rd:Bool) (n fuel:Nat) (c:XC):FC:=
 @XC.rec (λ_=>FC) (.mk kSkip) (λ_ _ a b=>fc a λa=>fc b λb=>.mk (kSeq a b)) (λops=>.mk (kRegV ops))
  (λops x=> @Bool.rec (λ_=>FC) (@GX.rec (λ_=>FC) (λg=>.mk (kDfr (kops ops) g)) (gx x)) (.mk kBad) rd)
  (λg lc _ _ a b=> @Bool.rec (λ_=>FC) (@GX.rec (λ_=>FC) (λg=>.mk (kRf ent n g lc)) (gx g)) (.mk kBad) rd)
  (λanc ops=>.mk (kDrawn anc ops)) (λt _ _ a b=> @GX.rec (λ_=>FC) (λt=>fc a λa=>fc b λb=>.mk (kCond t a b)) (gx t))
  (λid _ b=>fc b λb=>.mk (kBlock id b)) (λ_ b=>fc b λb=>.mk (kLoop fuel b)) (λ_ b=>b) (λid=>.mk (kExit id)) (.mk kRet) (.mk kBad) c
theorem kcodeV_eq (ent:FuncId->Bool) (rd:Bool) (n fuel:Nat) (c:XC):kcodeV ent rd n fuel c=kcode ent rd n fuel c:=by
 have e:(λops=>FC.mk (kRegV ops))=λops=>FC.mk (kReg (kops ops)):=funext λops=>by rw [kRegV_eq]
 unfold kcodeV;rw [e];rfl

-- tables
inductive BT (α:Type) where
 | nil
 | node (k:Nat) (v:α) (l r:BT α)
noncomputable def BT.find {α:Type} (t:BT α) (id:Nat):Option α:= @BT.rec α (λ_=>Option α) none (λk v _ _ l r=> @Bool.rec (λ_=>Option α) (@Bool.rec (λ_=>Option α) l r (Nat.ble k id)) (some v) (Nat.beq k id)) t
def BT.all {α:Type} (p:Nat->α->Prop):BT α->Prop
 | .nil=>True
 | .node k v l r=>p k v/\l.all p/\r.all p
theorem BT.find_ok {α:Type} {p:Nat->α->Prop}:∀ {t:BT α},t.all p->∀ {id:Nat} {v:α},t.find id=some v->p id v
 | .nil,_,id,v,h=>by cases h
 | .node k x l r,ht,id,v,h=>by
  have h: @Bool.rec (λ_=>Option α) (@Bool.rec (λ_=>Option α) (l.find id) (r.find id) (Nat.ble k id)) (some x) (Nat.beq k id)=some v:=h;cases e:Nat.beq k id with
  | true=>
   rw [e] at h;have h:some x=some v:=h;have e:=Nat.eq_of_beq_eq_true e;subst e;rw [Option.some.injEq] at h; subst h;exact ht.1
  | false=>
   rw [e] at h;cases e2:Nat.ble k id with
   | true=>rw [e2] at h; exact BT.find_ok ht.2.2 h
   | false=>rw [e2] at h; exact BT.find_ok ht.2.1 h
def BT.keys {α:Type}:BT α->BT PUnit
 | .nil=>.nil
 | .node k _ l r=>.node k .unit l.keys r.keys
theorem BT.find_keys {α:Type} (id:Nat):∀ t:BT α,(t.keys.find id).isSome=(t.find id).isSome
 | .nil=>rfl
 | .node k x l r=>by
  show (@Bool.rec (λ_=>Option PUnit) (@Bool.rec (λ_=>Option PUnit) (l.keys.find id) (r.keys.find id) (Nat.ble k id)) (some .unit) (Nat.beq k id)).isSome=(@Bool.rec (λ_=>Option α) (@Bool.rec (λ_=>Option α) (l.find id) (r.find id) (Nat.ble k id)) (some x) (Nat.beq k id)).isSome;cases Nat.beq k id with
  | true=>rfl
  | false=>
   cases Nat.ble k id with
   | true=>exact BT.find_keys id r
   | false=>exact BT.find_keys id l

/-- A function whose code is written out: how many slots, its code, its results. -/
abbrev CT:=Nat × CK × List SRes
noncomputable def entK (t:BT PUnit) (id:FuncId):Bool:= @Option.rec PUnit (λ_=>Bool) false (λ_=>true) (t.find id)
/-- It is the function's. -/
def CtOK (P:Program) (ent:FuncId->Bool) (id:Nat) (v:CT):Prop:=∃ fn sc,P.funcs[id]? =some fn/\yslimF P fn=some (v.1,sc,v.2.2)/\drawnF P id=true/\kcodeV ent false v.1 1000 sc= .mk v.2.1
noncomputable def kfunV (con:(YT->Fn3)->YT->Fn3) (ent:FuncId->Bool) (ctab:FuncId->Option CT) (dtab:FuncId->Option TD) (fuel:Nat) (d:Nat):YT->Fn3:=
 @Nat.rec (λ_=>YT->Fn3) (λ_ _ _ _=>.bad) (λ_ ih=>con λy id m args=>chkP (@Option.rec CT (λ_=>RR) .bad (λt=> @Prod.rec Nat (CK × List SRes) (λ_=>RR) (λn t=> @Prod.rec CK (List SRes) (λ_=>RR) (λf rs=>
  @Mem.rec (λ_=>RR) (λh nx _ _=> @Bool.rec (λ_=>RR) .bad (@Bool.rec (λ_=>RR) .bad (f (.nil (finD ent dtab fuel y ih nx rs)) (finD ent dtab fuel y ih nx rs) (fillS args 0 s0) (.mk h nx nx []) (.mk y ih (panD ent dtab fuel y ih nx rs) .clean)) (Nat.ble (lenL args) n)) (Nat.ble n 512)) m) t) t) (ctab id))) d
/-- The table of slim forms behind one of codes written out. -/
noncomputable def tabV (P:Program) (t:BT CT) (id:FuncId):Option T3:=match t.find id with | some _=>(P.funcs[id]?).bind (yslimF P) | none=>none
theorem tabV_some {P:Program} {ent:FuncId->Bool} {t:BT CT} (h:t.all (CtOK P ent)) {id:Nat} {v:CT} (hv:t.find id=some v):∃ sc,tabV P t id=some (v.1,sc,v.2.2)/\kcode ent false v.1 1000 sc= .mk v.2.1:=by
 obtain ⟨fn,sc,h1,h2,_,h4⟩:=BT.find_ok h hv;refine ⟨sc,?_,by rw [<- kcodeV_eq]; exact h4⟩;unfold tabV;rw [hv];simp only [h1,Option.bind_some,h2]
theorem entV_eq {P:Program} {ent:FuncId->Bool} {t:BT CT} (h:t.all (CtOK P ent)):entT (tabV P t)=entK t.keys:=by
 funext id;have hk:entK t.keys id=(t.find id).isSome:=by
  rw [<- BT.find_keys];unfold entK;cases BT.find t.keys id<;>rfl
 rw [hk];unfold entT;cases e:t.find id with
 | none=>
  have:tabV P t id=none:=by unfold tabV; rw [e]
  rw [this]; rfl
 | some v=>
  obtain ⟨sc,h1,_⟩:=tabV_some h e;rw [h1]; rfl
theorem kfunV_eq {P:Program} {t:BT CT} {ks:BT PUnit} (hks:t.keys=ks) (h:t.all (CtOK P (entK ks))) (con:(YT->Fn3)->YT->Fn3) (dtab:FuncId->Option TD):∀ d,kfunV con (entK ks) t.find dtab 1000 d=kfun con (tabV P t) dtab 1000 d
 | 0=>rfl
 | d+1=>by
  have ih:=kfunV_eq hks h con dtab d;have he:=entV_eq h;rw [hks] at he;show con (λy id m args=>chkP (@Option.rec CT (λ_=>RR) .bad (λt=> @Prod.rec Nat (CK × List SRes) (λ_=>RR) (λn t=> @Prod.rec CK (List SRes) (λ_=>RR) (λf rs=>
   @Mem.rec (λ_=>RR) (λh nx _ _=> @Bool.rec (λ_=>RR) .bad (@Bool.rec (λ_=>RR) .bad (f (.nil (finD (entK ks) dtab 1000 y (kfunV con (entK ks) _ dtab 1000 d) nx rs)) (finD (entK ks) dtab 1000 y (kfunV con (entK ks) _ dtab 1000 d) nx rs) (fillS args 0 s0) (.mk h nx nx []) (.mk y (kfunV con (entK ks) _ dtab 1000 d) (panD (entK ks) dtab 1000 y (kfunV con (entK ks) _ dtab 1000 d) nx rs) .clean)) (Nat.ble (lenL args) n)) (Nat.ble n 512)) m) t) t) (t.find id)))=
   con (λy id m args=>chkP (@Option.rec T3 (λ_=>RR) .bad (λt'=> @Prod.rec Nat (XC × List SRes) (λ_=>RR) (λn t'=> @Prod.rec XC (List SRes) (λ_=>RR) (λsc rs=>
   @Mem.rec (λ_=>RR) (λh nx _ _=> @Bool.rec (λ_=>RR) .bad (@Bool.rec (λ_=>RR) .bad (@FC.rec (λ_=>RR) (λf=>f (.nil (finD (entT (tabV P t)) dtab 1000 y (kfun con (tabV P t) dtab 1000 d) nx rs)) (finD (entT (tabV P t)) dtab 1000 y (kfun con (tabV P t) dtab 1000 d) nx rs) (fillS args 0 s0) (.mk h nx nx []) (.mk y (kfun con (tabV P t) dtab 1000 d) (panD (entT (tabV P t)) dtab 1000 y (kfun con (tabV P t) dtab 1000 d) nx rs) .clean)) (kcode (entT (tabV P t)) false n 1000 sc)) (Nat.ble (lenL args) n)) (Nat.ble n 512)) m) t') t') (tabV P t id)))
  rw [ih,he];congr 1;funext y id m args;congr 1;cases e:t.find id with
  | none=>
   have:tabV P t id=none:=by unfold tabV; rw [e]
   rw [this]
  | some v=>
   obtain ⟨n,F,rs⟩:=v;obtain ⟨sc,h1,h2⟩:=tabV_some h e;rw [h1];have h2:kcode (entK ks) false n 1000 sc= .mk F:=h2;simp only [h2]
theorem tabV_ok {P:Program} {ks:BT PUnit} {t:BT CT} (h:t.all (CtOK P (entK ks))):TabOK P (tabV P t):=by
 intro id t3 ht;unfold tabV at ht;split at ht
 . rename_i v hv;obtain ⟨fn,sc,h1,h2,h3,h4⟩:=BT.find_ok h hv;rw [h1,Option.bind_some] at ht;exact ⟨fn,h1,yslimF_ok h1 h3 ht⟩
 . cases ht
theorem kfunV_ok {P:Program} {con:(YT->Fn3)->YT->Fn3} {t:BT CT} {ks:BT PUnit} {dtab:FuncId->Option TD} (hcon:ConOK P con) (hks:t.keys=ks) (h:t.all (CtOK P (entK ks))) (hd:DTabOK P dtab) (d:Nat):GOK P (kfunV con (entK ks) t.find dtab 1000 d):=by
 rw [kfunV_eq hks h con dtab d];exact kfun_ok hcon (tabV_ok h) hd d
end Go.Zw
namespace Go.Zw
open Go.Vw (Nul V SX SO SRes width)

noncomputable def ansI (m:Mem) (l:List Nat) (r:RR):RR:= @RR.rec (λ_=>RR) .bad (λzs ups news=>hitK m l zs ups news) (λ_ _=>.bad) r
noncomputable def lenO (l:List ZO):Nat:= @List.rec ZO (λ_=>Nat) 0 (λ_ _ ih=>Nat.succ ih) l
theorem lenO_eq:∀ l:List ZO,lenO l=l.length
 | []=>rfl
 | o::l=>by show Nat.succ (lenO l)=_; rw [lenO_eq l]; rfl
/-- The functions of I by gI, in a heap of their own. -/
noncomputable def conI (I:FuncId->Bool) (gI:Fn3) (con:(YT->Fn3)->YT->Fn3):(YT->Fn3)->YT->Fn3:=λg y id m args=>
 @Bool.rec (λ_=>RR) (con g y id m args) (isoK m args λl as os=> @Bool.rec (λ_=>RR) .bad (ansI m l (gI id (memL os) as)) (Nat.ble (lenO os) 4096)) (I id)
theorem conI_ok {P:Program} {I:FuncId->Bool} {g0:YT->Fn3} {y0:YT} {con:(YT->Fn3)->YT->Fn3} (hg0:GOK P g0) (hy0:YOK P y0) (hc:ConOK P con):ConOK P (conI I (g0 y0) con):=by
 intro g hg y hy id m args h1 h2;cases e:I id with
 | false=>
  have e2:conI I (g0 y0) con g y id m args=con g y id m args:=by unfold conI; rw [e]
  rw [e2];exact hc g hg y hy id m args h1 h2
 | true=>
  have e2:conI I (g0 y0) con g y id m args=isoK m args λl as os=> @Bool.rec (λ_=>RR) .bad (ansI m l (g0 y0 id (memL os) as)) (Nat.ble (lenO os) 4096):=by unfold conI; rw [e]
  rw [e2];have key:∀ r,r≠.bad->(isoK m args λl as os=> @Bool.rec (λ_=>RR) .bad (ansI m l (g0 y0 id (memL os) as)) (Nat.ble (lenO os) 4096))=r->∃ zs ups news,r= .ok zs ups news/\AnsOK P id (mabs m) m.nx args zs ups news:=by
   intro r hb h;have h:=frcL_inv _ (show frcL (seen 0 m args []) (λl=>rensK (newK 0 l) args λas=>newsR (newK 0 l) 0 m l 0 λos=> @Bool.rec (λ_=>RR) .bad (ansI m l (g0 y0 id (memL os) as)) (Nat.ble (lenO os) 4096))=r from h);obtain ⟨a1,h⟩:=rensK_inv args h hb;obtain ⟨os,h,a3,a4⟩:=newsR_inv _ h hb;obtain ⟨a5,h⟩:=bad_inv h hb;rw [lenO_eq] at a5;generalize eg:g0 y0 id (memL os) (Z.rens (rho 0 (seen 0 m args [])) args)=q at h;cases q with
   | bad=>exact absurd h.symm hb
   | pan v dt=>exact absurd h.symm hb
   | ok zs ups news=>
    have hF:FactOK P id (.mk os (Z.rens (rho 0 (seen 0 m args [])) args) zs ups news):=fact_of hg0 hy0 a5 eg;have h:hitK m (seen 0 m args []) zs ups news=r:=h;cases r with
    | bad=>exact absurd rfl hb
    | ok zs' ups' news'=>exact ⟨_,_,_,rfl,hit_ok h2 a1 rfl a3 (λj r hj=>by have:=a4 j r hj; exact this) hF h⟩
    | pan v dt=>
     exfalso;have hN:NmK (embK (seen 0 m args []) m.nx) (λ_=>True) (emb (λr=>(seen 0 m args []).getD r 0) (seen 0 m args []).length m.nx):=λr f x h _=>⟨trivial,embK_inv h⟩;have h:rensK (embK (seen 0 m args []) m.nx) zs (λzs=>upsE (lenN (seen 0 m args [])) (embK (seen 0 m args []) m.nx) ups λups=>newsE (embK (seen 0 m args []) m.nx) news λnews=>.ok zs ups news)= .pan v dt:=by cases m; exact h
     obtain ⟨_,h⟩:=grensK_inv hN zs h hb;obtain ⟨_,h⟩:=upsE_inv hN ups h hb;have h:=newsE_inv hN news h hb;cases h
  refine ⟨λzs ups news h=>?_,λv dt h=>?_⟩
  . obtain ⟨_,_,_,e,hA⟩:=key _ (by simp) h;simp only [RR.ok.injEq] at e;obtain ⟨rfl,rfl,rfl⟩:=e;exact hA
  . obtain ⟨_,_,_,e,_⟩:=key _ (by simp) h;cases e
end Go.Zw
namespace Go.Zw
open Go.Vw (Nul V SX SO SRes width)

/-- A limb's row; an empty one; a number. -/
def lb (a:Nat):ZO:=.ob 68 false [.i .u64 (.ofNat (Nat.succ a))]
def l0:ZO:=.ob 68 true []
def ag (n:Bool) (z:Z):Z:=.agg [.b n,z]
/-- An object that names nothing. -/
def Lone (o:ZO):Prop:=∀ (p:Nat->Prop) (ρ:Nat->Nat),o.okR p/\o.ren ρ=o
theorem lone_lb (a:Nat):Lone (lb a):=λp ρ=>⟨⟨trivial,trivial⟩,rfl⟩
theorem lone_l0:Lone l0:=λp ρ=>⟨trivial,rfl⟩
theorem renO_lb {ρ:Nat->(Nat->RR)->RR} (a:Nat) (f:ZO->RR):renO ρ (lb a) f=f (lb a):=rfl
theorem renO_l0 {ρ:Nat->(Nat->RR)->RR} (f:ZO->RR):renO ρ l0 f=f l0:=rfl

section
variable {P:Program} {id:FuncId} {m:Mem} (hfree:∀ r,m.nx<=r->mabs m r=none)
include hfree
theorem at_1 {r:Nat} {o:ZO} {A:Nat->List Z} (ho:Lone o) (hr:mget r m=some o) (hA:∀ q (p:Nat->Prop) (ρ:Nat->Nat),(p q->Z.oksR p (A q))/\Z.rens ρ (A q)=A (ρ q)) {zs zs':List Z} {news news':List ZO}
 (hF:AnsOK P id (hOld [o]) 1 (A 0) zs [] news) (h:hitK m [r] zs [] news= .ok zs' [] news'):AnsOK P id (mabs m) m.nx (A r) zs' [] news':=by
 refine hit_ok hfree (l:=[r]) (as:=A 0) (os:=[o]) ((hA r _ (λ_=>0)).1 (.inr (by simp))) ?_ rfl (λj q hj=>?_) hF h
 . rw [(hA r (λ_=>True) _).2];simp [rho,posN]
 . have:j=0/\q=r:=by cases j<;>simp at hj; exact ⟨rfl,hj.symm⟩
   obtain ⟨rfl,rfl⟩:=this;exact ⟨Nat.zero_le _,by simp [rho,posN],o,hr,(ho _ (λ_=>0)).1,by rw [(ho (λ_=>True) _).2]; rfl⟩
theorem at_2 {r1 r2:Nat} {o1 o2:ZO} {A:Nat->Nat->List Z} (h1:Lone o1) (h2:Lone o2) (hr1:mget r1 m=some o1) (hr2:mget r2 m=some o2) (hne:r1≠r2)
 (hA:∀ q q' (p:Nat->Prop) (ρ:Nat->Nat),(p q->p q'->Z.oksR p (A q q'))/\Z.rens ρ (A q q')=A (ρ q) (ρ q')) {zs zs':List Z} {news news':List ZO}
 (hF:AnsOK P id (hOld [o1,o2]) 2 (A 0 1) zs [] news) (h:hitK m [r1,r2] zs [] news= .ok zs' [] news'):AnsOK P id (mabs m) m.nx (A r1 r2) zs' [] news':=by
 refine hit_ok hfree (l:=[r1,r2]) (as:=A 0 1) (os:=[o1,o2]) ((hA r1 r2 _ (λ_=>0)).1 (.inr (by simp)) (.inr (by simp))) ?_ rfl (λj q hj=>?_) hF h
 . rw [(hA r1 r2 (λ_=>True) _).2];simp [rho,posN,hne]
 . match j,hj with
   | 0,hj=>
    simp at hj; subst hj;exact ⟨Nat.zero_le _,by simp [rho,posN],o1,hr1,(h1 _ (λ_=>0)).1,by rw [(h1 (λ_=>True) _).2]; rfl⟩
   | 1,hj=>
    simp at hj; subst hj;exact ⟨Nat.zero_le _,by simp [rho,posN,hne],o2,hr2,(h2 _ (λ_=>0)).1,by rw [(h2 (λ_=>True) _).2]; rfl⟩
   | j+2,hj=>simp at hj
theorem at_0 {args zs zs':List Z} {news news':List ZO} (ha:Z.oksR (domL 0 []) args) (hr:Z.rens (rho 0 []) args=args)
 (hF:AnsOK P id (hOld []) 0 args zs [] news) (h:hitK m [] zs [] news= .ok zs' [] news'):AnsOK P id (mabs m) m.nx args zs' [] news':=
 hit_ok hfree (l:=[]) (as:=args) (os:=[]) ha hr.symm rfl (λj q hj=>by simp at hj) hF h
end
/-- What comes out. -/
theorem hit_ag (m:Mem) (l:List Nat) (n:Bool) (k:Nat) {o:ZO} (ho:∀ ρ f,renO ρ o f=f o):hitK m l [ag n (.sl l.length 0 k 1)] [] [o]= .ok [ag n (.sl m.nx 0 k 1)] [] [o]:=by
 have he:∀ (nx:Nat) (l:List Nat) (f:Nat->RR),embK l nx l.length f=f nx:=λnx l f=>by
  induction l with
  | nil=>show frc (Nat.add nx 0) f=f nx; rw [frc_eq]; rfl
  | cons x l ih=>exact ih
 cases m with
 | mk h nx nb dt=>
  show embK l nx l.length (λr=>renO (embK l nx) o λo=>.ok [ag n (.sl r 0 k 1)] [] [o])= .ok [ag n (.sl nx 0 k 1)] [] [o];rw [he,ho]
theorem hit_i (m:Mem) (l:List Nat) (k:IntKind) (x:Int):hitK m l [.i k x] [] []= .ok [.i k x] [] []:=by cases m; rfl
theorem hit_nil (m:Mem) (l:List Nat) (n:Bool):hitK m l [ag n .nil] [] []= .ok [ag n .nil] [] []:=by cases m; rfl

/-- A number of at most one limb: none, an empty row, a row of one limb. -/
inductive SV where
 | nil
 | zero
 | limb (a:Nat)
def SV.obj:SV->List ZO
 | .nil=>[]
 | .zero=>[l0]
 | .limb a=>[lb a]
def SV.z:SV->Nat->Z
 | .nil,_=>.nil
 | .zero,r=>.sl r 0 0 1
 | .limb _,r=>.sl r 0 1 1
def SV.val:SV->Nat
 | .limb a=>a+1
 | _=>0
/-- Where it lies in a heap. -/
def SV.lies (m:Mem):SV->Nat->Prop
 | .nil,_=>True
 | .zero,r=>mget r m=some l0
 | .limb a,r=>mget r m=some (lb a)
section
variable {P:Program} {id:FuncId} {m:Mem} (hfree:∀ r,m.nx<=r->mabs m r=none)
include hfree
theorem at_un {n:Bool} (s:SV) {r:Nat} (hs:s.lies m r) {zs zs':List Z} {news news':List ZO} (hF:AnsOK P id (hOld s.obj) s.obj.length [ag n (s.z 0)] zs [] news) (h:∀ l,l.length=s.obj.length->hitK m l zs [] news= .ok zs' [] news'):
 AnsOK P id (mabs m) m.nx [ag n (s.z r)] zs' [] news':=by
 cases s with
 | nil=>exact at_0 hfree ⟨⟨trivial,trivial,trivial⟩,trivial⟩ rfl hF (h [] rfl)
 | zero=>exact at_1 hfree (A:=λq=>[ag n (.sl q 0 0 1)]) lone_l0 hs (λq p ρ=>⟨λh=>⟨⟨trivial,h,trivial⟩,trivial⟩,rfl⟩) hF (h [r] rfl)
 | limb a=>exact at_1 hfree (A:=λq=>[ag n (.sl q 0 1 1)]) (lone_lb a) hs (λq p ρ=>⟨λh=>⟨⟨trivial,h,trivial⟩,trivial⟩,rfl⟩) hF (h [r] rfl)
theorem at_md {n:Bool} (s:SV) {r:Nat} (hs:s.lies m r) {zs zs':List Z} {news news':List ZO} (hF:AnsOK P id (hOld s.obj) s.obj.length [.b n,s.z 0] zs [] news) (h:∀ l,l.length=s.obj.length->hitK m l zs [] news= .ok zs' [] news'):
 AnsOK P id (mabs m) m.nx [.b n,s.z r] zs' [] news':=by
 cases s with
 | nil=>exact at_0 hfree ⟨trivial,trivial,trivial⟩ rfl hF (h [] rfl)
 | zero=>exact at_1 hfree (A:=λq=>[.b n,.sl q 0 0 1]) lone_l0 hs (λq p ρ=>⟨λh=>⟨trivial,h,trivial⟩,rfl⟩) hF (h [r] rfl)
 | limb a=>exact at_1 hfree (A:=λq=>[.b n,.sl q 0 1 1]) (lone_lb a) hs (λq p ρ=>⟨λh=>⟨trivial,h,trivial⟩,rfl⟩) hF (h [r] rfl)
theorem at_bi {n1 n2:Bool} (s t:SV) {r q:Nat} (hs:s.lies m r) (ht:t.lies m q) (hne:s.obj.length=1->t.obj.length=1->r≠q) {zs zs':List Z} {news news':List ZO}
 (hF:AnsOK P id (hOld (s.obj++t.obj)) (s.obj++t.obj).length [ag n1 (s.z 0),ag n2 (t.z s.obj.length)] zs [] news) (h:∀ l,l.length=(s.obj++t.obj).length->hitK m l zs [] news= .ok zs' [] news'):
 AnsOK P id (mabs m) m.nx [ag n1 (s.z r),ag n2 (t.z q)] zs' [] news':=by
 cases s with
 | nil=>
  cases t with
  | nil=>exact at_0 hfree ⟨⟨trivial,trivial,trivial⟩,⟨trivial,trivial,trivial⟩,trivial⟩ rfl hF (h [] rfl)
  | zero=>exact at_1 hfree (A:=λq=>[ag n1 .nil,ag n2 (.sl q 0 0 1)]) lone_l0 ht (λq p ρ=>⟨λh=>⟨⟨trivial,trivial,trivial⟩,⟨trivial,h,trivial⟩,trivial⟩,rfl⟩) hF (h [q] rfl)
  | limb b=>exact at_1 hfree (A:=λq=>[ag n1 .nil,ag n2 (.sl q 0 1 1)]) (lone_lb b) ht (λq p ρ=>⟨λh=>⟨⟨trivial,trivial,trivial⟩,⟨trivial,h,trivial⟩,trivial⟩,rfl⟩) hF (h [q] rfl)
 | zero=>
  cases t with
  | nil=>exact at_1 hfree (A:=λq=>[ag n1 (.sl q 0 0 1),ag n2 .nil]) lone_l0 hs (λq p ρ=>⟨λh=>⟨⟨trivial,h,trivial⟩,⟨trivial,trivial,trivial⟩,trivial⟩,rfl⟩) hF (h [r] rfl)
  | zero=>exact at_2 hfree (A:=λq q'=>[ag n1 (.sl q 0 0 1),ag n2 (.sl q' 0 0 1)]) lone_l0 lone_l0 hs ht (hne rfl rfl) (λq q' p ρ=>⟨λh h'=>⟨⟨trivial,h,trivial⟩,⟨trivial,h',trivial⟩,trivial⟩,rfl⟩) hF (h [r,q] rfl)
  | limb b=>exact at_2 hfree (A:=λq q'=>[ag n1 (.sl q 0 0 1),ag n2 (.sl q' 0 1 1)]) lone_l0 (lone_lb b) hs ht (hne rfl rfl) (λq q' p ρ=>⟨λh h'=>⟨⟨trivial,h,trivial⟩,⟨trivial,h',trivial⟩,trivial⟩,rfl⟩) hF (h [r,q] rfl)
 | limb a=>
  cases t with
  | nil=>exact at_1 hfree (A:=λq=>[ag n1 (.sl q 0 1 1),ag n2 .nil]) (lone_lb a) hs (λq p ρ=>⟨λh=>⟨⟨trivial,h,trivial⟩,⟨trivial,trivial,trivial⟩,trivial⟩,rfl⟩) hF (h [r] rfl)
  | zero=>exact at_2 hfree (A:=λq q'=>[ag n1 (.sl q 0 1 1),ag n2 (.sl q' 0 0 1)]) (lone_lb a) lone_l0 hs ht (hne rfl rfl) (λq q' p ρ=>⟨λh h'=>⟨⟨trivial,h,trivial⟩,⟨trivial,h',trivial⟩,trivial⟩,rfl⟩) hF (h [r,q] rfl)
  | limb b=>exact at_2 hfree (A:=λq q'=>[ag n1 (.sl q 0 1 1),ag n2 (.sl q' 0 1 1)]) (lone_lb a) (lone_lb b) hs ht (hne rfl rfl) (λq q' p ρ=>⟨λh h'=>⟨⟨trivial,h,trivial⟩,⟨trivial,h',trivial⟩,trivial⟩,rfl⟩) hF (h [r,q] rfl)
end

-- numbers read off a heap
/-- What z reads as, and where it lies. -/
noncomputable def rdV (m:Mem):Z->Option (SV × Nat)
 | .nil=>some (.nil,0)
 | .sl r 0 0 1=>match mget r m with | some (.ob 68 true [])=>some (.zero,r) | _=>none
 | .sl r 0 1 1=>match mget r m with | some (.ob 68 false [.i .u64 (.ofNat (Nat.succ a))])=>some (.limb a,r) | _=>none
 | _=>none
def SV.sg (n:Bool):SV->Bool
 | .limb _=>true
 | _=> !n
noncomputable def rdA (m:Mem):Z->Option (Bool × SV × Nat)
 | .agg [.b n,z]=>match rdV m z with | some (s,r)=>if s.sg n then some (n,s,r) else none | none=>none
 | _=>none
theorem rdV_inv {m:Mem} {z:Z} {s:SV} {r:Nat} (h:rdV m z=some (s,r)):z=s.z r/\s.lies m r:=by
 unfold rdV at h;split at h
 . simp only [Option.some.injEq,Prod.mk.injEq] at h; obtain ⟨rfl,rfl⟩:=h; exact ⟨rfl,trivial⟩
 . split at h
   . rename_i e;simp only [Option.some.injEq,Prod.mk.injEq] at h; obtain ⟨rfl,rfl⟩:=h; exact ⟨rfl,e⟩
   . cases h
 . split at h
   . rename_i e;simp only [Option.some.injEq,Prod.mk.injEq] at h; obtain ⟨rfl,rfl⟩:=h; exact ⟨rfl,e⟩
   . cases h
 . cases h
theorem rdA_inv {m:Mem} {z:Z} {n:Bool} {s:SV} {r:Nat} (h:rdA m z=some (n,s,r)):z=ag n (s.z r)/\s.lies m r/\s.sg n=true:=by
 unfold rdA at h;split at h
 . split at h
   . rename_i e;split at h
     . rename_i hs;simp only [Option.some.injEq,Prod.mk.injEq] at h;obtain ⟨rfl,rfl,rfl⟩:=h;obtain ⟨rfl,hl⟩:=rdV_inv e;exact ⟨rfl,hl,hs⟩
     . cases h
   . cases h
 . cases h
/-- A number's row, made new at m's first free name. -/
noncomputable def outN (m:Mem) (n:Bool) (x:Nat):RR:=frc m.nx λq=> @Nat.rec (λ_=>RR) (.ok [ag false (.sl q 0 0 1)] [] [l0]) (λa _=>.ok [ag n (.sl q 0 1 1)] [] [lb a]) x
theorem outN_0 (m:Mem) (n:Bool):outN m n 0= .ok [ag false (.sl m.nx 0 0 1)] [] [l0]:=by unfold outN; rw [frc_eq]; rfl
theorem outN_s (m:Mem) (n:Bool) (a:Nat):outN m n (a+1)= .ok [ag n (.sl m.nx 0 1 1)] [] [lb a]:=by unfold outN; rw [frc_eq]
/-- A native's answer holds. -/
def NatOK (P:Program) (id:Nat) (f:Mem->List Z->Option RR):Prop:=∀ m args,(∀ r,m.nx<=r->mabs m r=none)->∀ r,f m args=some r->∃ zs news,r= .ok zs [] news/\AnsOK P id (mabs m) m.nx args zs [] news
/-- Natives by their functions. -/
noncomputable def conN (t:BT (Mem->List Z->Option RR)) (con:(YT->Fn3)->YT->Fn3):(YT->Fn3)->YT->Fn3:=λg y id m args=>
 @Option.rec (Mem->List Z->Option RR) (λ_=>RR) (con g y id m args) (λf=> @Option.rec RR (λ_=>RR) (con g y id m args) (λr=>r) (f m args)) (t.find id)
theorem conN_ok {P:Program} {t:BT (Mem->List Z->Option RR)} {con:(YT->Fn3)->YT->Fn3} (ht:t.all (NatOK P)) (hc:ConOK P con):ConOK P (conN t con):=by
 intro g hg y hy id m args h1 h2;have hm:=hc g hg y hy id m args h1 h2;cases e:t.find id with
 | none=>
  have e2:conN t con g y id m args=con g y id m args:=by unfold conN; rw [e]
  rw [e2]; exact hm
 | some f=>
  cases e3:f m args with
  | none=>
   have e2:conN t con g y id m args=con g y id m args:=by unfold conN; rw [e]; simp only [e3]
   rw [e2]; exact hm
  | some r=>
   have e2:conN t con g y id m args=r:=by unfold conN; rw [e]; simp only [e3]
   rw [e2];obtain ⟨zs,news,rfl,hA⟩:=BT.find_ok ht e m args h2 r e3;refine ⟨λzs' ups' news' h=>?_,λv dt h=>?_⟩
   . simp only [RR.ok.injEq] at h;obtain ⟨rfl,rfl,rfl⟩:=h;exact hA
   . cases h

/-- A fact, by the kernel at variables. -/
theorem fact_at {P:Program} {g:YT->Fn3} (hg:GOK P g) {y:YT} (hy:YOK P y) {id:FuncId} {old:List ZO} {args zs:List Z} {news:List ZO} (h:g y id (memL old) args= .ok zs [] news) (hl:Nat.ble old.length 4096=true):
 AnsOK P id (hOld old) old.length args zs [] news:=fact_of hg hy hl h
end Go.Zw
