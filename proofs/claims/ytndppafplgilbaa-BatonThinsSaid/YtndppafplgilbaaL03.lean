/-
  larchlaw04.BatonThins returns true for every input. No condition. (Part 3 of 49; joined by program.)
-/
import Derived.Test.YtndppafplgilbaaL02
set_option linter.unusedVariables false
set_option linter.unusedSimpArgs false
set_option linter.unusedSectionVars false
set_option maxRecDepth 100000
namespace Go.Proofs.Ytndppafplgilbaa
open Go Go.Conc
section
variable {P:Program} {α β:Type}
theorem Dead.stuck (x:String):Dead P (Go.stuck x:Sem α):=fun _=>⟨_,rfl,rfl⟩
theorem Dead.unsupported (x:Unsupported) (h:mildH (.unsupported x)=true):Dead P (Go.unsupported x:Sem α):=fun _=>⟨_,rfl,h⟩
theorem Dead.bind {s:Sem α} {f:α→Sem β} (h:Dead P s):Dead P (s >>= f):=fun v=>by
  obtain ⟨x,h1,h2⟩:=h v
  refine ⟨x,?_,h2⟩
  show (s.bind f).run P v=_
  rw [Sem.run_bind',h1]
  rfl
theorem Sim2.shape' (r:Nat) {k:Option (TypeId × Nat)→Sem α} (hk:∀ x,Sim P (k x)) (hn:Dead P (k none)):Sim P (Go.shape r >>= k):=Sim2.shape r hk fun e n _=>Sim2.dead hn
theorem Sim2.list {σ γ:Type} (l:List γ) (f:γ→σ→Sem (ForInStep σ)) (hf:∀ x b,Sim P (f x b)):∀ b,Sim P (forIn l b f):=by
  induction l with
  | nil=>intro b;exact Sim2.pure' b
  | cons x l ih =>
    intro b
    rw [List.forIn_cons]
    refine Sim2.bind' (hf x b) fun r=>?_
    cases r with
    | done b=>exact Sim2.pure' b
    | yield b=>exact ih b
theorem Sim2.array {σ γ:Type} (l:Array γ) (f:γ→σ→Sem (ForInStep σ)) (hf:∀ x b,Sim P (f x b)) (b:σ):Sim P (forIn l b f):=by
  rw [← Array.forIn_toList]
  exact Sim2.list _ f hf b
theorem Sim2.ite {s t:Sem α} {c:Prop} [Decidable c] (h:Sim P s) (k:Sim P t):Sim P (if c then s else t):=by split <;> assumption
theorem Sim2.range {σ:Type} (l:Std.Legacy.Range) (f:Nat→σ→Sem (ForInStep σ)) (hf:∀ x b,Sim P (f x b)) (b:σ):Sim P (forIn l b f):=by
  rw [Std.Legacy.Range.forIn_eq_forIn_range']
  exact Sim2.list _ f hf b
theorem Sim2.foldlM {σ γ:Type} (f:σ→γ→Sem σ) (hf:∀ b x,Sim P (f b x)):∀ (l:List γ) (b:σ),Sim P (l.foldlM f b)
  | [],b=>Sim2.pure' b
  | x :: l,b=>Sim2.bind' (hf b x) fun b=>Sim2.foldlM f hf l b
theorem Sim2.mapM {δ γ:Type} (f:γ→Sem δ) (hf:∀ x,Sim P (f x)) (l:Array γ):Sim P (l.mapM f):=by
  rw [Array.mapM_eq_foldlM]
  rw [← Array.foldlM_toList]
  exact Sim2.foldlM _ (fun b x=>Sim2.bind' (hf x) fun _=>Sim2.pure' _) _ _
end
class SimI (P:Program) {α:Type} (s:Sem α):Prop where
  out:Sim P s
section
variable {P:Program}
theorem sim_program:Sim P Go.program:=Sim2.program (Sim2.pure _)
instance:SimI P (Go.program):=⟨sim_program⟩
theorem sim_stuck {α:Type} (s:String):Sim P (Go.stuck s:Sem α):=Sim2.halt _ rfl
theorem sim_unsupported {α:Type} (s:Unsupported) (h:mildH (.unsupported s)=true):Sim P (Go.unsupported s:Sem α):=Sim2.halt _ h
theorem sim_goPanic {α:Type} (x:Value):Sim P (Go.goPanic x:Sem α):=Sim2.panic _
theorem sim_load (a:Addr) (m:Mode):Sim P (Go.load a m):=Sim2.load m a fun _=>Sim2.pure _
theorem sim_store (a:Addr) (x:Value) (m:Mode):Sim P (Go.store a x m):=Sim2.store m a x (Sim2.pure _)
theorem sim_choose (q:Question):Sim P (Go.choose q):=Sim2.choose q fun _=>Sim2.pure _
theorem sim_frozen (a:Addr):Sim P (Go.frozen a):=Sim2.frozen a fun _=>Sim2.pure _
theorem sim_markX (f:FuncId):Sim P (Go.mark (.extern f)):=Sim2.mark _ (.inl ⟨f,rfl⟩) (Sim2.pure _)
theorem sim_markN:Sim P (Go.mark .noRoom):=Sim2.mark _ (.inr rfl) (Sim2.pure _)
theorem sim_newCells (c:Array Value) (e:TypeId) (f:Nat × Nat):Sim P (Go.newObj (.cells c e f)):=Sim2.new _ rfl fun _=>Sim2.pure _
theorem sim_newNumber (a:Addr) (l:Bool):Sim P (Go.newObj (.number a l)):=Sim2.new _ rfl fun _=>Sim2.pure _
instance {α:Type} (s:String):SimI P (Go.stuck s:Sem α):=⟨sim_stuck s⟩
instance {α:Type} (x:Value):SimI P (Go.goPanic x:Sem α):=⟨sim_goPanic x⟩
instance (a:Addr) (m:Mode):SimI P (Go.load a m):=⟨sim_load a m⟩
instance (a:Addr) (x:Value) (m:Mode):SimI P (Go.store a x m):=⟨sim_store a x m⟩
instance (q:Question):SimI P (Go.choose q):=⟨sim_choose q⟩
instance (a:Addr):SimI P (Go.frozen a):=⟨sim_frozen a⟩
instance (f:FuncId):SimI P (Go.mark (.extern f)):=⟨sim_markX f⟩
instance:SimI P (Go.mark .noRoom):=⟨sim_markN⟩
instance (c:Array Value) (e:TypeId) (f:Nat × Nat):SimI P (Go.newObj (.cells c e f)):=⟨sim_newCells c e f⟩
instance (a:Addr) (l:Bool):SimI P (Go.newObj (.number a l)):=⟨sim_newNumber a l⟩
theorem simW (p:Prop) (h:p:=by (repeat' (first | with_reducible exact Sim2.pure _ | with_reducible exact Sim2.pure' _ | with_reducible (first | exact sim_unsupported _ rfl | exact sim_noView _ | exact sim_numberAt _ | exact SimI.out) | with_reducible refine Sim2.array _ _ (fun _ _=>?_) _ | with_reducible refine Sim2.range _ _ (fun _ _=>?_) _ | ((with_reducible refine Sim2.shape' _ (fun _=>?_) ?_);rotate_left;(exact (fun _=>⟨_,rfl,rfl⟩))) | ((with_reducible refine Sim2.viewAt _ ?_ (fun _=>?_));rotate_left;(exact (fun _=>⟨_,rfl,rfl⟩))) | (with_reducible refine Sim2.getObj _ (fun _=>?_) (fun _ _=>?_) (fun _ _ _=>?_) ?_) <;> (first | (exact (fun _=>⟨_,rfl,rfl⟩)) | exact Sim2.dead (fun _=>⟨_,rfl,rfl⟩) | skip) | with_reducible refine Sim2.bind' ?_ (fun _=>?_) | with_reducible refine Sim2.ite ?_ ?_ | split | dsimp only))):p:=h
theorem sim_typeInfo (t:TypeId):Sim P (Go.typeInfo t):=by unfold Go.typeInfo;exact simW _
theorem sim_underlying (t:TypeId):Sim P (Go.underlying t):=by unfold Go.underlying;exact simW _
instance (t:TypeId):SimI P (Go.typeInfo t):=⟨sim_typeInfo t⟩
instance (t:TypeId):SimI P (Go.underlying t):=⟨sim_underlying t⟩
theorem sim_typeStr (t:TypeId):Sim P (Go.typeStr t):=by unfold Go.typeStr;exact simW _
theorem sim_zeroValue (t:TypeId):Sim P (Go.zeroValue t):=by unfold Go.zeroValue;exact simW _
theorem sim_sizeOf (t:TypeId):Sim P (Go.sizeOf t):=by unfold Go.sizeOf;exact simW _
theorem sim_isAgg (t:TypeId):Sim P (Go.isAgg t):=by unfold Go.isAgg;exact simW _
theorem sim_elemOf (t:TypeId):Sim P (Go.elemOf t):=by unfold Go.elemOf;exact simW _
theorem sim_newRow (t:TypeId) (c:Array Value):Sim P (Go.newRow t c):=by unfold Go.newRow;exact simW _
theorem sim_newVar (t:TypeId) (v:Value):Sim P (Go.newVar t v):=sim_newRow _ _
instance (t:TypeId):SimI P (Go.typeStr t):=⟨sim_typeStr t⟩
instance (t:TypeId):SimI P (Go.zeroValue t):=⟨sim_zeroValue t⟩
instance (t:TypeId):SimI P (Go.sizeOf t):=⟨sim_sizeOf t⟩
instance (t:TypeId):SimI P (Go.isAgg t):=⟨sim_isAgg t⟩
instance (t:TypeId):SimI P (Go.elemOf t):=⟨sim_elemOf t⟩
instance (t:TypeId) (c:Array Value):SimI P (Go.newRow t c):=⟨sim_newRow t c⟩
instance (t:TypeId) (v:Value):SimI P (Go.newVar t v):=⟨sim_newVar t v⟩
theorem sim_runtimePanic {α:Type} (e:RuntimeError):Sim P (Go.runtimePanic e:Sem α):=by unfold Go.runtimePanic;exact simW _
instance {α:Type} (e:RuntimeError):SimI P (Go.runtimePanic e:Sem α):=⟨sim_runtimePanic e⟩
theorem sim_loadCellsFrom (a:Addr):∀ (n i:Nat) (acc:Array Value),Sim P (Go.loadCellsFrom a i n acc)
  | 0,i,acc=>Sim2.pure' _
  | n + 1,i,acc=>Sim2.bind' (sim_load _ _) fun _=>sim_loadCellsFrom a n _ _
theorem sim_loadCells (a:Addr) (n:Nat):Sim P (Go.loadCells a n):=sim_loadCellsFrom _ _ _ _
theorem sim_storeCells (a:Addr):∀ (l:List Value) (i:Nat),Sim P (Go.storeCells a l i)
  | [],i=>Sim2.pure' _
  | v :: l,i=>Sim2.bind' (sim_store _ _ _) fun _=>sim_storeCells a l _
instance (a:Addr) (n:Nat):SimI P (Go.loadCells a n):=⟨sim_loadCells a n⟩
instance (a:Addr) (l:List Value) (i:Nat):SimI P (Go.storeCells a l i):=⟨sim_storeCells a l i⟩
theorem sim_loadVar (t:TypeId) (a:Addr):Sim P (Go.loadVar t a):=by unfold Go.loadVar;exact simW _
theorem sim_storeVar (t:TypeId) (a:Addr) (v:Value):Sim P (Go.storeVar t a v):=by unfold Go.storeVar;exact simW _
theorem sim_part (t:TypeId) (c:Array Value) (o:Nat):Sim P (Go.part t c o):=by unfold Go.part;exact simW _
theorem sim_asIntOf (v:Value):Sim P (Go.asIntOf v):=by unfold Go.asIntOf;exact simW _
theorem sim_asBool (v:Value):Sim P (Go.asBool v):=by unfold Go.asBool;exact simW _
theorem sim_asString (v:Value):Sim P (Go.asString v):=by unfold Go.asString;exact simW _
theorem sim_asAgg (v:Value):Sim P (Go.asAgg v):=by unfold Go.asAgg;exact simW _
theorem sim_asAddr (v:Value):Sim P (Go.asAddr v):=by unfold Go.asAddr;exact simW _
theorem sim_sureAddr (v:Value):Sim P (Instr.sureAddr v):=by unfold Instr.sureAddr;exact simW _
instance (t:TypeId) (a:Addr):SimI P (Go.loadVar t a):=⟨sim_loadVar t a⟩
instance (t:TypeId) (a:Addr) (v:Value):SimI P (Go.storeVar t a v):=⟨sim_storeVar t a v⟩
instance (t:TypeId) (c:Array Value) (o:Nat):SimI P (Go.part t c o):=⟨sim_part t c o⟩
instance (v:Value):SimI P (Go.asIntOf v):=⟨sim_asIntOf v⟩
instance (v:Value):SimI P (Go.asBool v):=⟨sim_asBool v⟩
instance (v:Value):SimI P (Go.asString v):=⟨sim_asString v⟩
instance (v:Value):SimI P (Go.asAgg v):=⟨sim_asAgg v⟩
instance (v:Value):SimI P (Go.asAddr v):=⟨sim_asAddr v⟩
instance (v:Value):SimI P (Instr.sureAddr v):=⟨sim_sureAddr v⟩
theorem sim_asInt (v:Value):Sim P (Go.asInt v):=by unfold Go.asInt;exact simW _
theorem sim_boundsPanic {α:Type} (k:IntKind) (x y:Int) (c:BoundsCode):Sim P (Go.boundsPanic k x y c:Sem α):=by
  unfold Go.boundsPanic
  dsimp only
  split
  · exact Sim2.bind' (Sim2.bind' (sim_choose _) fun _=>Sim2.pure' _) fun _=>sim_runtimePanic _
  · exact Sim2.bind' (Sim2.pure' _) fun _=>sim_runtimePanic _
theorem sim_askRoom (n:Nat):Sim P (Go.askRoom n):=by unfold Go.askRoom;exact simW _
instance (v:Value):SimI P (Go.asInt v):=⟨sim_asInt v⟩
instance {α:Type} (k:IntKind) (x y:Int) (c:BoundsCode):SimI P (Go.boundsPanic k x y c:Sem α):=⟨sim_boundsPanic k x y c⟩
instance (n:Nat):SimI P (Go.askRoom n):=⟨sim_askRoom n⟩
theorem sim_byteOf (a:Addr):Sim P (Go.byteOf a):=by
  unfold Go.byteOf
  (repeat' (first | with_reducible exact Sim2.pure _ | with_reducible exact Sim2.pure' _ | with_reducible (first | exact sim_unsupported _ rfl | exact sim_noView _ | exact sim_numberAt _ | exact SimI.out) | with_reducible refine Sim2.array _ _ (fun _ _=>?_) _ | with_reducible refine Sim2.range _ _ (fun _ _=>?_) _ | ((with_reducible refine Sim2.shape' _ (fun _=>?_) ?_);rotate_left;(exact (fun _=>⟨_,rfl,rfl⟩))) | ((with_reducible refine Sim2.viewAt _ ?_ (fun _=>?_));rotate_left;(exact (fun _=>⟨_,rfl,rfl⟩))) | (with_reducible refine Sim2.getObj _ (fun _=>?_) (fun _ _=>?_) (fun _ _ _=>?_) ?_) <;> (first | (exact (fun _=>⟨_,rfl,rfl⟩)) | exact Sim2.dead (fun _=>⟨_,rfl,rfl⟩) | skip) | with_reducible refine Sim2.bind' ?_ (fun _=>?_) | with_reducible refine Sim2.ite ?_ ?_ | split | dsimp only))
instance (a:Addr):SimI P (Go.byteOf a):=⟨sim_byteOf a⟩
theorem sim_intArith (op:BinOp) (k:IntKind) (x y:Int):Sim P (Op.intArith op k x y):=by unfold Op.intArith;exact simW _
theorem sim_intDiv (op:BinOp) (k:IntKind) (x y:Int):Sim P (Op.intDiv op k x y):=by unfold Op.intDiv;exact simW _
theorem sim_intBits (op:BinOp) (k:IntKind) (x y:Int):Sim P (Op.intBits op k x y):=by unfold Op.intBits;exact simW _
theorem sim_intCmp (op:BinOp) (x y:Int):Sim P (Op.intCmp op x y):=by unfold Op.intCmp;exact simW _
theorem sim_shift (op:BinOp) (k:IntKind) (x:Int) (l:IntKind) (y:Int):Sim P (Op.shift op k x l y):=by unfold Op.shift;exact simW _
theorem sim_floatArith (op:BinOp) (k:FloatKind) (x y:Nat):Sim P (Op.floatArith op k x y):=by unfold Op.floatArith;exact simW _
theorem sim_floatCmp (op:BinOp) (k:FloatKind) (x y:Nat):Sim P (Op.floatCmp op k x y):=by unfold Op.floatCmp;exact simW _
theorem sim_stringOp (op:BinOp) (x y:ByteArray):Sim P (Op.stringOp op x y):=by unfold Op.stringOp;exact simW _
instance (op:BinOp) (k:IntKind) (x y:Int):SimI P (Op.intArith op k x y):=⟨sim_intArith op k x y⟩
instance (op:BinOp) (k:IntKind) (x y:Int):SimI P (Op.intDiv op k x y):=⟨sim_intDiv op k x y⟩
instance (op:BinOp) (k:IntKind) (x y:Int):SimI P (Op.intBits op k x y):=⟨sim_intBits op k x y⟩
instance (op:BinOp) (x y:Int):SimI P (Op.intCmp op x y):=⟨sim_intCmp op x y⟩
instance (op:BinOp) (k:IntKind) (x:Int) (l:IntKind) (y:Int):SimI P (Op.shift op k x l y):=⟨sim_shift op k x l y⟩
instance (op:BinOp) (k:FloatKind) (x y:Nat):SimI P (Op.floatArith op k x y):=⟨sim_floatArith op k x y⟩
instance (op:BinOp) (k:FloatKind) (x y:Nat):SimI P (Op.floatCmp op k x y):=⟨sim_floatCmp op k x y⟩
instance (op:BinOp) (x y:ByteArray):SimI P (Op.stringOp op x y):=⟨sim_stringOp op x y⟩
theorem sim_unary (op:UnOp) (x:Value):Sim P (Op.unary op x):=by unfold Op.unary;exact simW _
theorem sim_carith (op:BinOp) (k:FloatKind) (x y:Nat):Sim P (Op.Complex.arith op k x y):=by unfold Op.Complex.arith;exact simW _
theorem sim_ccmp (op:BinOp) (k:FloatKind) (x y:Nat):Sim P (Op.Complex.cmp op k x y):=by unfold Op.Complex.cmp;exact simW _
theorem sim_floatToFloat (k:FloatKind) (x:Nat) (l:FloatKind):Sim P (Conv.floatToFloat k x l):=by unfold Conv.floatToFloat;exact simW _
instance (op:UnOp) (x:Value):SimI P (Op.unary op x):=⟨sim_unary op x⟩
instance (op:BinOp) (k:FloatKind) (x y:Nat):SimI P (Op.Complex.arith op k x y):=⟨sim_carith op k x y⟩
instance (op:BinOp) (k:FloatKind) (x y:Nat):SimI P (Op.Complex.cmp op k x y):=⟨sim_ccmp op k x y⟩
instance (k:FloatKind) (x:Nat) (l:FloatKind):SimI P (Conv.floatToFloat k x l):=⟨sim_floatToFloat k x l⟩
theorem sim_cconv (k:FloatKind) (x:Nat) (l:FloatKind):Sim P (Op.Complex.conv k x l):=by unfold Op.Complex.conv;exact simW _
instance (k:FloatKind) (x:Nat) (l:FloatKind):SimI P (Op.Complex.conv k x l):=⟨sim_cconv k x l⟩
theorem sim_cproduct (a b c d:Nat):Sim P (Op.Complex.product a b c d):=by unfold Op.Complex.product Op.Complex.sub Op.Complex.add Op.Complex.mul;exact simW _
theorem sim_ccorrected (a b c d e:Nat):Sim P (Op.Complex.corrected a b c d e):=by unfold Op.Complex.corrected Op.Complex.sub Op.Complex.add Op.Complex.mul;exact simW _
instance (a b c d:Nat):SimI P (Op.Complex.product a b c d):=⟨sim_cproduct a b c d⟩
instance (a b c d e:Nat):SimI P (Op.Complex.corrected a b c d e):=⟨sim_ccorrected a b c d e⟩
theorem sim_cquotient (a b c d:Nat):Sim P (Op.Complex.quotient a b c d):=by unfold Op.Complex.quotient Op.Complex.sub Op.Complex.add Op.Complex.mul Op.Complex.quo;exact simW _
instance (a b c d:Nat):SimI P (Op.Complex.quotient a b c d):=⟨sim_cquotient a b c d⟩
theorem sim_complexOp (op:BinOp) (k:FloatKind) (a b c d:Nat):Sim P (Op.complexOp op k a b c d):=by unfold Op.complexOp;exact simW _
instance (op:BinOp) (k:FloatKind) (a b c d:Nat):SimI P (Op.complexOp op k a b c d):=⟨sim_complexOp op k a b c d⟩
theorem sim_fieldPlace (a:Addr) (f:Field):Sim P (Go.fieldPlace a f):=by unfold Go.fieldPlace Go.partAt;exact simW _
instance (a:Addr) (f:Field):SimI P (Go.fieldPlace a f):=⟨sim_fieldPlace a f⟩
theorem sim_unsafeAdd (a:Array TypeId) (t:TypeId) (x:Array Value):Sim P (Builtin.unsafeAdd_ a t x):=by
  unfold Builtin.unsafeAdd_
  rcases x with ⟨_ | ⟨a,_ | ⟨b,_ | ⟨c,l⟩⟩⟩⟩ <;> try exact sim_stuck _
  cases a <;> try exact sim_stuck _
  rename_i ptr
  refine Sim2.bind' (sim_asInt _) fun n=>?_
  dsimp only
  by_cases hn:n=0
  · rw [if_pos hn]
    cases ptr with
    | none=>(repeat' (first | with_reducible exact Sim2.pure _ | with_reducible exact Sim2.pure' _ | with_reducible (first | exact sim_unsupported _ rfl | exact sim_noView _ | exact sim_numberAt _ | exact SimI.out) | with_reducible refine Sim2.array _ _ (fun _ _=>?_) _ | with_reducible refine Sim2.range _ _ (fun _ _=>?_) _ | ((with_reducible refine Sim2.shape' _ (fun _=>?_) ?_);rotate_left;(exact (fun _=>⟨_,rfl,rfl⟩))) | ((with_reducible refine Sim2.viewAt _ ?_ (fun _=>?_));rotate_left;(exact (fun _=>⟨_,rfl,rfl⟩))) | (with_reducible refine Sim2.getObj _ (fun _=>?_) (fun _ _=>?_) (fun _ _ _=>?_) ?_) <;> (first | (exact (fun _=>⟨_,rfl,rfl⟩)) | exact Sim2.dead (fun _=>⟨_,rfl,rfl⟩) | skip) | with_reducible refine Sim2.bind' ?_ (fun _=>?_) | with_reducible refine Sim2.ite ?_ ?_ | split | dsimp only))
    | some a =>
      dsimp only
      refine Sim2.viewAt _ ?_ (fun x=>?_)
      · (repeat' (first | with_reducible exact Sim2.pure _ | with_reducible exact Sim2.pure' _ | with_reducible (first | exact sim_unsupported _ rfl | exact sim_noView _ | exact sim_numberAt _ | exact SimI.out) | with_reducible refine Sim2.array _ _ (fun _ _=>?_) _ | with_reducible refine Sim2.range _ _ (fun _ _=>?_) _ | ((with_reducible refine Sim2.shape' _ (fun _=>?_) ?_);rotate_left;(exact (fun _=>⟨_,rfl,rfl⟩))) | ((with_reducible refine Sim2.viewAt _ ?_ (fun _=>?_));rotate_left;(exact (fun _=>⟨_,rfl,rfl⟩))) | (with_reducible refine Sim2.getObj _ (fun _=>?_) (fun _ _=>?_) (fun _ _ _=>?_) ?_) <;> (first | (exact (fun _=>⟨_,rfl,rfl⟩)) | exact Sim2.dead (fun _=>⟨_,rfl,rfl⟩) | skip) | with_reducible refine Sim2.bind' ?_ (fun _=>?_) | with_reducible refine Sim2.ite ?_ ?_ | split | dsimp only))
      · (exact (fun _=>⟨_,rfl,rfl⟩))
  · rw [if_neg hn]
    (repeat' (first | with_reducible exact Sim2.pure _ | with_reducible exact Sim2.pure' _ | with_reducible (first | exact sim_unsupported _ rfl | exact sim_noView _ | exact sim_numberAt _ | exact SimI.out) | with_reducible refine Sim2.array _ _ (fun _ _=>?_) _ | with_reducible refine Sim2.range _ _ (fun _ _=>?_) _ | ((with_reducible refine Sim2.shape' _ (fun _=>?_) ?_);rotate_left;(exact (fun _=>⟨_,rfl,rfl⟩))) | ((with_reducible refine Sim2.viewAt _ ?_ (fun _=>?_));rotate_left;(exact (fun _=>⟨_,rfl,rfl⟩))) | (with_reducible refine Sim2.getObj _ (fun _=>?_) (fun _ _=>?_) (fun _ _ _=>?_) ?_) <;> (first | (exact (fun _=>⟨_,rfl,rfl⟩)) | exact Sim2.dead (fun _=>⟨_,rfl,rfl⟩) | skip) | with_reducible refine Sim2.bind' ?_ (fun _=>?_) | with_reducible refine Sim2.ite ?_ ?_ | split | dsimp only))
theorem sim_twoPlaces (a b:Addr):Sim P (Op.twoPlaces a b):=by unfold Op.twoPlaces;exact simW _
instance (a:Array TypeId) (t:TypeId) (x:Array Value):SimI P (Builtin.unsafeAdd_ a t x):=⟨sim_unsafeAdd a t x⟩
instance (a b:Addr):SimI P (Op.twoPlaces a b):=⟨sim_twoPlaces a b⟩
theorem sim_addrSub (k:IntKind) (a b:Addr):Sim P (Op.addrSub k a b):=by unfold Op.addrSub;exact simW _
theorem sim_addrCmp (k:BinOp) (a b:Addr):Sim P (Op.addrCmp k a b):=by unfold Op.addrCmp;exact simW _
theorem sim_addrMod (k:IntKind) (a:Addr) (n:Int):Sim P (Op.addrMod k a n):=by unfold Op.addrMod;exact simW _
theorem sim_behindNumber (a:Addr):Sim P (Go.behindNumber a):=by unfold Go.behindNumber;exact simW _
theorem sim_asNumber (a:Addr) (l:Bool):Sim P (Go.asNumber a l):=by unfold Go.asNumber;exact simW _
instance (k:IntKind) (a b:Addr):SimI P (Op.addrSub k a b):=⟨sim_addrSub k a b⟩
instance (k:BinOp) (a b:Addr):SimI P (Op.addrCmp k a b):=⟨sim_addrCmp k a b⟩
instance (k:IntKind) (a:Addr) (n:Int):SimI P (Op.addrMod k a n):=⟨sim_addrMod k a n⟩
instance (a:Addr):SimI P (Go.behindNumber a):=⟨sim_behindNumber a⟩
instance (a:Addr) (l:Bool):SimI P (Go.asNumber a l):=⟨sim_asNumber a l⟩
theorem sim_movedNumber (t:TypeId) (x y:Value):Sim P (Go.movedNumber t x y):=by unfold Go.movedNumber;exact simW _
theorem sim_movedPointer (t:TypeId) (x y:Value):Sim P (Go.movedPointer t x y):=by unfold Go.movedPointer;exact simW _
instance (t:TypeId) (x y:Value):SimI P (Go.movedNumber t x y):=⟨sim_movedNumber t x y⟩
instance (t:TypeId) (x y:Value):SimI P (Go.movedPointer t x y):=⟨sim_movedPointer t x y⟩
theorem Masked.frozenHid {H:Nat→Prop} {L:Nat} {v w:World} (M:Masked H L v w) {k:Nat} (hk:H k) (o:Nat) (s:Option Nat):w.frozen? ⟨k,o,s⟩=false:=by
  obtain ⟨c,e,h1,_,_⟩:=M.hid _ hk
  unfold World.frozen?
  simp only
  rw [h1];simp
theorem sim_stringish (a:Addr):Sim P (Go.stringish a):=by
  have e:Go.stringish a=.frozen a (fun b=>if b then .pure true else .shape a.block (fun s=>match s with | some (_,n)=>.frozen { block:=a.block,off:=n } (fun b=>.pure b) | none=>.pure false)):=by
    unfold Go.stringish
    simp only [bind,Sem.bind,Go.shape,Go.frozen,pure]
    congr 1
  rw [e]
  refine Sim2.look (fun u=>u.frozen? a || match u.shape? a.block with | some (_,n)=>u.frozen? { block:=a.block,off:=n } | none=>false) (fun u=>?_) (fun u es=>?_) (fun H L v w M=>?_)
  · simp only [Sem.run]
    cases u.frozen? a with
    | true=>rfl
    | false =>
      simp only [Sem.run,Bool.false_eq_true,if_false,Bool.false_or]
      cases u.shape? a.block with
      | none=>rfl
      | some x=>rfl
  · simp only [Sem.runT]
    cases u.frozen? a with
    | true=>rfl
    | false =>
      simp only [Sem.runT,Bool.false_eq_true,if_false,Bool.false_or]
      cases u.shape? a.block with
      | none=>rfl
      | some x=>rfl
  · rw [M.frozen a]
    congr 1
    rcases M.shape a.block with ⟨h,_⟩ | ⟨hk,h1,e',n,h0,h2⟩
    · rw [h]
      cases w.shape? a.block with
      | none=>rfl
      | some x=>exact (M.frozen _).symm
    · rw [h1,h2]
      exact (M.frozenHid hk _ _).symm
theorem sim_isNone (r:Nat):Sim P (do pure ((← Go.shape r) matches some (_,0)):Sem Bool):=by
  refine Sim2.look (fun u=>u.shape? r matches some (_,0)) (fun u=>rfl) (fun u es=>rfl) (fun H L v w M=>?_)
  rcases M.shape r with ⟨h,_⟩ | ⟨hk,h1,e',n,h0,h2⟩
  · rw [h]
  · rw [h1,h2]
    cases n with
    | zero=>omega
    | succ n=>rfl
theorem sim_mayBeOne (a b:Addr):Sim P (Go.mayBeOne a b):=by
  unfold Go.mayBeOne
  dsimp only
  refine Sim2.bind' (sim_stringish _) fun _=>?_
  refine Sim2.bind' (sim_stringish _) fun _=>?_
  exact Sim2.bind' (sim_isNone _) fun _=>Sim2.bind' (sim_isNone _) fun _=>Sim2.pure' _
instance (a:Addr):SimI P (Go.stringish a):=⟨sim_stringish a⟩
instance (a b:Addr):SimI P (Go.mayBeOne a b):=⟨sim_mayBeOne a b⟩
theorem sim_sameAddr (a b:Addr):Sim P (Go.sameAddr a b):=by unfold Go.sameAddr;exact simW _
instance (a b:Addr):SimI P (Go.sameAddr a b):=⟨sim_sameAddr a b⟩
theorem sim_samePointer (a b:Option Addr):Sim P (Go.samePointer a b):=by unfold Go.samePointer;exact simW _
instance (a b:Option Addr):SimI P (Go.samePointer a b):=⟨sim_samePointer a b⟩
theorem sim_equalIn:∀ (d:Nat) (t:TypeId) (x y:Value),Sim P (Op.equalIn d t x y):=by
  intro d
  induction d with
  | zero=>intro t x y;exact sim_unsupported _ rfl
  | succ d ih =>
    intro t x y
    unfold Op.equalIn
    repeat' (first | with_reducible exact ih _ _ _ | (first | with_reducible exact Sim2.pure _ | with_reducible exact Sim2.pure' _ | with_reducible (first | exact sim_unsupported _ rfl | exact sim_noView _ | exact sim_numberAt _ | exact SimI.out) | with_reducible refine Sim2.array _ _ (fun _ _=>?_) _ | with_reducible refine Sim2.range _ _ (fun _ _=>?_) _ | ((with_reducible refine Sim2.shape' _ (fun _=>?_) ?_);rotate_left;(exact (fun _=>⟨_,rfl,rfl⟩))) | ((with_reducible refine Sim2.viewAt _ ?_ (fun _=>?_));rotate_left;(exact (fun _=>⟨_,rfl,rfl⟩))) | (with_reducible refine Sim2.getObj _ (fun _=>?_) (fun _ _=>?_) (fun _ _ _=>?_) ?_) <;> (first | (exact (fun _=>⟨_,rfl,rfl⟩)) | exact Sim2.dead (fun _=>⟨_,rfl,rfl⟩) | skip) | with_reducible refine Sim2.bind' ?_ (fun _=>?_) | with_reducible refine Sim2.ite ?_ ?_ | split | dsimp only))
theorem sim_equal (t:TypeId) (x y:Value):Sim P (Op.equal t x y):=sim_equalIn _ _ _ _
instance (t:TypeId) (x y:Value):SimI P (Op.equal t x y):=⟨sim_equal t x y⟩
theorem sim_eqGuardIn:∀ (d:Nat) (t:TypeId) (x y:Value),Sim P (Op.eqGuardIn d t x y):=by
  intro d
  induction d with
  | zero=>intro t x y;exact sim_unsupported _ rfl
  | succ d ih =>
    intro t x y
    unfold Op.eqGuardIn
    repeat' (first | with_reducible exact ih _ _ _ | (first | with_reducible exact Sim2.pure _ | with_reducible exact Sim2.pure' _ | with_reducible (first | exact sim_unsupported _ rfl | exact sim_noView _ | exact sim_numberAt _ | exact SimI.out) | with_reducible refine Sim2.array _ _ (fun _ _=>?_) _ | with_reducible refine Sim2.range _ _ (fun _ _=>?_) _ | ((with_reducible refine Sim2.shape' _ (fun _=>?_) ?_);rotate_left;(exact (fun _=>⟨_,rfl,rfl⟩))) | ((with_reducible refine Sim2.viewAt _ ?_ (fun _=>?_));rotate_left;(exact (fun _=>⟨_,rfl,rfl⟩))) | (with_reducible refine Sim2.getObj _ (fun _=>?_) (fun _ _=>?_) (fun _ _ _=>?_) ?_) <;> (first | (exact (fun _=>⟨_,rfl,rfl⟩)) | exact Sim2.dead (fun _=>⟨_,rfl,rfl⟩) | skip) | with_reducible refine Sim2.bind' ?_ (fun _=>?_) | with_reducible refine Sim2.ite ?_ ?_ | split | dsimp only))
instance (d:Nat) (t:TypeId) (x y:Value):SimI P (Op.eqGuardIn d t x y):=⟨sim_eqGuardIn d t x y⟩
theorem sim_eqGuard (op:BinOp) (t:TypeId) (x y:Operand) (a b:Value):Sim P (Go.eqGuard op t x y a b):=by unfold Go.eqGuard;exact simW _
theorem sim_binOp (op:BinOp) (t:TypeId) (x y:Value):Sim P (Go.binOp op t x y):=by unfold Go.binOp;exact simW _
instance (op:BinOp) (t:TypeId) (x y:Operand) (a b:Value):SimI P (Go.eqGuard op t x y a b):=⟨sim_eqGuard op t x y a b⟩
instance (op:BinOp) (t:TypeId) (x y:Value):SimI P (Go.binOp op t x y):=⟨sim_binOp op t x y⟩
theorem sim_alloc (t:TypeId) (h:Bool) (x:Value):Sim P (Instr.alloc t h x):=by unfold Instr.alloc;exact simW _
theorem sim_box (t:TypeId) (x:Value):Sim P (Instr.box t x):=by unfold Instr.box;exact simW _
theorem sim_build (t:TypeId) (x:Array (Nat × Value)):Sim P (Instr.build t x):=by
  unfold Instr.build
  repeat' (first | with_reducible refine Sim2.bind' (Sim2.mapM _ (fun _=>?_) _) (fun _=>?_) | (first | with_reducible exact Sim2.pure _ | with_reducible exact Sim2.pure' _ | with_reducible (first | exact sim_unsupported _ rfl | exact sim_noView _ | exact sim_numberAt _ | exact SimI.out) | with_reducible refine Sim2.array _ _ (fun _ _=>?_) _ | with_reducible refine Sim2.range _ _ (fun _ _=>?_) _ | ((with_reducible refine Sim2.shape' _ (fun _=>?_) ?_);rotate_left;(exact (fun _=>⟨_,rfl,rfl⟩))) | ((with_reducible refine Sim2.viewAt _ ?_ (fun _=>?_));rotate_left;(exact (fun _=>⟨_,rfl,rfl⟩))) | (with_reducible refine Sim2.getObj _ (fun _=>?_) (fun _ _=>?_) (fun _ _ _=>?_) ?_) <;> (first | (exact (fun _=>⟨_,rfl,rfl⟩)) | exact Sim2.dead (fun _=>⟨_,rfl,rfl⟩) | skip) | with_reducible refine Sim2.bind' ?_ (fun _=>?_) | with_reducible refine Sim2.ite ?_ ?_ | split | dsimp only))
theorem sim_buildSlice (t:TypeId) (n:Nat) (x:Array (Nat × Value)):Sim P (Instr.buildSlice t n x):=by unfold Instr.buildSlice;exact simW _
theorem sim_loadAt (t:TypeId) (x:Value):Sim P (Instr.loadAt t x):=by unfold Instr.loadAt;exact simW _
theorem sim_storeAt (t:TypeId) (x y:Value):Sim P (Instr.storeAt t x y):=by unfold Instr.storeAt;exact simW _
theorem sim_field (t:TypeId) (x:Value) (n:Nat):Sim P (Instr.field t x n):=by unfold Instr.field;exact simW _
theorem sim_index (t:TypeId) (x y:Value):Sim P (Instr.index t x y):=by unfold Instr.index;exact simW _
theorem sim_fieldAt (t:TypeId) (x:Value) (n:Nat):Sim P (Instr.fieldAt t x n):=by unfold Instr.fieldAt;exact simW _
theorem sim_indexAt (t:TypeId) (x y:Value):Sim P (Instr.indexAt t x y):=by unfold Instr.indexAt;exact simW _
theorem sim_sliceBound (x:Value) (n:Nat) (c:BoundsCode):Sim P (Instr.sliceBound x n c):=by unfold Instr.sliceBound;exact simW _
instance (t:TypeId) (h:Bool) (x:Value):SimI P (Instr.alloc t h x):=⟨sim_alloc t h x⟩
instance (t:TypeId) (x:Value):SimI P (Instr.box t x):=⟨sim_box t x⟩
instance (t:TypeId) (x:Array (Nat × Value)):SimI P (Instr.build t x):=⟨sim_build t x⟩
instance (t:TypeId) (n:Nat) (x:Array (Nat × Value)):SimI P (Instr.buildSlice t n x):=⟨sim_buildSlice t n x⟩
instance (t:TypeId) (x:Value):SimI P (Instr.loadAt t x):=⟨sim_loadAt t x⟩
instance (t:TypeId) (x y:Value):SimI P (Instr.storeAt t x y):=⟨sim_storeAt t x y⟩
instance (t:TypeId) (x:Value) (n:Nat):SimI P (Instr.field t x n):=⟨sim_field t x n⟩
instance (t:TypeId) (x y:Value):SimI P (Instr.index t x y):=⟨sim_index t x y⟩
instance (t:TypeId) (x:Value) (n:Nat):SimI P (Instr.fieldAt t x n):=⟨sim_fieldAt t x n⟩
instance (t:TypeId) (x y:Value):SimI P (Instr.indexAt t x y):=⟨sim_indexAt t x y⟩
instance (x:Value) (n:Nat) (c:BoundsCode):SimI P (Instr.sliceBound x n c):=⟨sim_sliceBound x n c⟩
theorem sim_sliceBounds (b:Bool) (n c:Nat) (l h m:Option Value):Sim P (Instr.sliceBounds b n c l h m):=by unfold Instr.sliceBounds;exact simW _
instance (b:Bool) (n c:Nat) (l h m:Option Value):SimI P (Instr.sliceBounds b n c l h m):=⟨sim_sliceBounds b n c l h m⟩
theorem sim_slice (t:TypeId) (x:Value) (l h m:Option Value):Sim P (Instr.slice t x l h m):=by unfold Instr.slice;exact simW _
instance (t:TypeId) (x:Value) (l h m:Option Value):SimI P (Instr.slice t x l h m):=⟨sim_slice t x l h m⟩
theorem sim_sliceAt (t:TypeId) (x:Value) (l h m:Option Value):Sim P (Instr.sliceAt t x l h m):=by unfold Instr.sliceAt;exact simW _
theorem sim_makeSlice (t:TypeId) (x y:Value):Sim P (Instr.makeSlice t x y):=by unfold Instr.makeSlice;exact simW _
theorem sim_makeInterface (t:TypeId) (x:Value):Sim P (Instr.makeInterface t x):=by unfold Instr.makeInterface;exact simW _
theorem sim_makeFunc (f:Fn) (x y:Array Value):Sim P (Instr.makeFunc f x y):=by unfold Instr.makeFunc;exact simW _
theorem sim_extract (x:Value) (n:Nat):Sim P (Instr.extract x n):=by unfold Instr.extract;exact simW _
instance (t:TypeId) (x:Value) (l h m:Option Value):SimI P (Instr.sliceAt t x l h m):=⟨sim_sliceAt t x l h m⟩
instance (t:TypeId) (x y:Value):SimI P (Instr.makeSlice t x y):=⟨sim_makeSlice t x y⟩
instance (t:TypeId) (x:Value):SimI P (Instr.makeInterface t x):=⟨sim_makeInterface t x⟩
instance (f:Fn) (x y:Array Value):SimI P (Instr.makeFunc f x y):=⟨sim_makeFunc f x y⟩
instance (x:Value) (n:Nat):SimI P (Instr.extract x n):=⟨sim_extract x n⟩
theorem sim_len (a:Array TypeId) (t:TypeId) (x:Array Value):Sim P (Builtin.len_ a t x):=by unfold Builtin.len_;exact simW _
theorem sim_cap (a:Array TypeId) (t:TypeId) (x:Array Value):Sim P (Builtin.cap_ a t x):=by unfold Builtin.cap_;exact simW _
theorem sim_min2 (x y:Value):Sim P (Builtin.min2 x y):=by unfold Builtin.min2;exact simW _
theorem sim_max2 (x y:Value):Sim P (Builtin.max2 x y):=by unfold Builtin.max2;exact simW _
theorem sim_min (a:Array TypeId) (t:TypeId) (x:Array Value):Sim P (Builtin.min_ a t x):=by
  unfold Builtin.min_
  split
  · (repeat' (first | with_reducible exact Sim2.pure _ | with_reducible exact Sim2.pure' _ | with_reducible (first | exact sim_unsupported _ rfl | exact sim_noView _ | exact sim_numberAt _ | exact SimI.out) | with_reducible refine Sim2.array _ _ (fun _ _=>?_) _ | with_reducible refine Sim2.range _ _ (fun _ _=>?_) _ | ((with_reducible refine Sim2.shape' _ (fun _=>?_) ?_);rotate_left;(exact (fun _=>⟨_,rfl,rfl⟩))) | ((with_reducible refine Sim2.viewAt _ ?_ (fun _=>?_));rotate_left;(exact (fun _=>⟨_,rfl,rfl⟩))) | (with_reducible refine Sim2.getObj _ (fun _=>?_) (fun _ _=>?_) (fun _ _ _=>?_) ?_) <;> (first | (exact (fun _=>⟨_,rfl,rfl⟩)) | exact Sim2.dead (fun _=>⟨_,rfl,rfl⟩) | skip) | with_reducible refine Sim2.bind' ?_ (fun _=>?_) | with_reducible refine Sim2.ite ?_ ?_ | split | dsimp only))
  · exact Sim2.foldlM _ (fun _ _=>sim_min2 _ _) _ _
theorem sim_max (a:Array TypeId) (t:TypeId) (x:Array Value):Sim P (Builtin.max_ a t x):=by
  unfold Builtin.max_
  split
  · (repeat' (first | with_reducible exact Sim2.pure _ | with_reducible exact Sim2.pure' _ | with_reducible (first | exact sim_unsupported _ rfl | exact sim_noView _ | exact sim_numberAt _ | exact SimI.out) | with_reducible refine Sim2.array _ _ (fun _ _=>?_) _ | with_reducible refine Sim2.range _ _ (fun _ _=>?_) _ | ((with_reducible refine Sim2.shape' _ (fun _=>?_) ?_);rotate_left;(exact (fun _=>⟨_,rfl,rfl⟩))) | ((with_reducible refine Sim2.viewAt _ ?_ (fun _=>?_));rotate_left;(exact (fun _=>⟨_,rfl,rfl⟩))) | (with_reducible refine Sim2.getObj _ (fun _=>?_) (fun _ _=>?_) (fun _ _ _=>?_) ?_) <;> (first | (exact (fun _=>⟨_,rfl,rfl⟩)) | exact Sim2.dead (fun _=>⟨_,rfl,rfl⟩) | skip) | with_reducible refine Sim2.bind' ?_ (fun _=>?_) | with_reducible refine Sim2.ite ?_ ?_ | split | dsimp only))
  · exact Sim2.foldlM _ (fun _ _=>sim_max2 _ _) _ _
theorem sim_lenOf (x:Value):Sim P (Builtin.lenOf x):=by unfold Builtin.lenOf;exact simW _
theorem sim_firstCells (a b:Nat) (x:Value):Sim P (Builtin.firstCells a b x):=by unfold Builtin.firstCells;exact simW _
instance (a:Array TypeId) (t:TypeId) (x:Array Value):SimI P (Builtin.len_ a t x):=⟨sim_len a t x⟩
instance (a:Array TypeId) (t:TypeId) (x:Array Value):SimI P (Builtin.cap_ a t x):=⟨sim_cap a t x⟩
instance (a:Array TypeId) (t:TypeId) (x:Array Value):SimI P (Builtin.min_ a t x):=⟨sim_min a t x⟩
instance (a:Array TypeId) (t:TypeId) (x:Array Value):SimI P (Builtin.max_ a t x):=⟨sim_max a t x⟩
instance (x:Value):SimI P (Builtin.lenOf x):=⟨sim_lenOf x⟩
instance (a b:Nat) (x:Value):SimI P (Builtin.firstCells a b x):=⟨sim_firstCells a b x⟩
theorem holdsCells_ok (a:Addr) (n:Nat) (v:World):∃ b,(Builtin.holdsCells a n).run P v=.ok b v:=by
  have e:Builtin.holdsCells a n=.shape a.block (fun x=>match x with | some (_,m)=>.pure (a.spot.isNone && decide (a.off + n≤m)) | none=>.pure false):=by
    unfold Builtin.holdsCells
    simp only [bind,Sem.bind,Go.shape,pure]
    rfl
  rw [e]
  simp only [Sem.run]
  cases v.shape? a.block with
  | none=>exact ⟨_,rfl⟩
  | some x=>exact ⟨_,rfl⟩
theorem run_ok {α β:Type} {s:Sem α} {k:α→Sem β} {v:World} {a:α} (h:s.run P v=.ok a v):(s >>= k).run P v=(k a).run P v:=by
  show (s.bind k).run P v=_
  rw [Sem.run_bind',h]
  rfl
theorem run_okT {α β:Type} {s:Sem α} {k:α→Sem β} {v:World} (h:∃ a,s.run P v=.ok a v) (hk:∀ a,∃ b,(k a).run P v=.ok b v):∃ b,(s >>= k).run P v=.ok b v:=by
  obtain ⟨a,h⟩:=h
  rw [run_ok h]
  exact hk a
theorem mayShare_ok (size sLen n:Nat) (base:Option Addr) (x:Value) (v:World):∃ b,(Builtin.mayShare size sLen n base x).run P v=.ok b v:=by
  unfold Builtin.mayShare
  have key:∀ there:Bool,∃ b,(if (!there)=true then pure true else match x with
      | .slice (some b) _ _=>do pure (!(← Builtin.holdsCells b (n * size)) || base.any (·.block == b.block))
      | _=>pure false:Sem Bool).run P v=.ok b v:=fun there=>by
    split
    · exact ⟨_,rfl⟩
    · split
      · exact run_okT (holdsCells_ok _ _ _) fun b=>⟨_,rfl⟩
      · exact ⟨_,rfl⟩
  dsimp only
  cases base with
  | none=>exact run_okT ⟨_,rfl⟩ fun t=>key t
  | some a=>exact run_okT (holdsCells_ok _ _ _) fun b=>run_okT ⟨_,rfl⟩ fun c=>run_okT ⟨_,rfl⟩ fun t=>key t
set_option maxHeartbeats 1000000 in
theorem sim_append (a:Array TypeId) (t:TypeId) (x:Array Value):Sim P (Builtin.append_ a t x):=by
  unfold Builtin.append_
  split
  · rename_i sType s x _
    refine Sim2.bind' (sim_underlying _) fun d=>?_
    cases d <;> try exact sim_stuck _
    rename_i elem
    dsimp only
    cases s <;> try exact sim_stuck _
    rename_i base sLen sCap _
    dsimp only
    refine Sim2.bind' (sim_sizeOf _) fun size=>?_
    have key:∀ (zeros:Bool) (n:Nat),Sim P (do
        let appended:Sem (Array Value) :=
          if !zeros then Builtin.firstCells size n x
          else if n * size=0 then pure #[]
          else do pure (Builtin.zeroCells (← zeroValue elem).cells n)
        let need:=sLen + n
        if need≤sCap then
          let new ← appended
          if let some a:=base then storeCells (a.add (sLen * size)) new.toList
          pure (Value.slice base need sCap)
        else
          if (need:Int) > IntKind.i64.max∧(zeros∨(← typeInfo elem).bytes=0) then runtimePanic (.error "growslice: len out of range")
          if Builtin.nextslicecap need sCap * (← typeInfo elem).bytes > 2 ^ 48 then (if zeros then runtimePanic (.error "growslice: len out of range") else do
            if !(← Builtin.mayShare size sLen n base x) then mark .noRoom
            unsupported (.resourceLimit "append: a slice or a string whose bytes no memory bears"))
          let newCap ← choose (.appendCap need sCap elem)
          askRoom (newCap * (← typeInfo elem).bytes)
          let old ← Builtin.firstCells size sLen (.slice base sLen sCap)
          let new ← appended
          let rest:=Builtin.zeroCells (← zeroValue elem).cells (newCap - need)
          pure (Value.slice (some (← newRow elem (old ++ new ++ rest))) need newCap)):=by
      intro zeros n
      have ha:Sim P (if !zeros then Builtin.firstCells size n x else if n * size=0 then pure #[] else do pure (Builtin.zeroCells (← zeroValue elem).cells n)):=by
        (repeat' (first | with_reducible exact Sim2.pure _ | with_reducible exact Sim2.pure' _ | with_reducible (first | exact sim_unsupported _ rfl | exact sim_noView _ | exact sim_numberAt _ | exact SimI.out) | with_reducible refine Sim2.array _ _ (fun _ _=>?_) _ | with_reducible refine Sim2.range _ _ (fun _ _=>?_) _ | ((with_reducible refine Sim2.shape' _ (fun _=>?_) ?_);rotate_left;(exact (fun _=>⟨_,rfl,rfl⟩))) | ((with_reducible refine Sim2.viewAt _ ?_ (fun _=>?_));rotate_left;(exact (fun _=>⟨_,rfl,rfl⟩))) | (with_reducible refine Sim2.getObj _ (fun _=>?_) (fun _ _=>?_) (fun _ _ _=>?_) ?_) <;> (first | (exact (fun _=>⟨_,rfl,rfl⟩)) | exact Sim2.dead (fun _=>⟨_,rfl,rfl⟩) | skip) | with_reducible refine Sim2.bind' ?_ (fun _=>?_) | with_reducible refine Sim2.ite ?_ ?_ | split | dsimp only))
      generalize (if !zeros then Builtin.firstCells size n x else if n * size=0 then pure #[] else do pure (Builtin.zeroCells (← zeroValue elem).cells n))=app at ha
      dsimp only
      have hb:Sim P (do
          let newCap ← choose (.appendCap (sLen + n) sCap elem)
          askRoom (newCap * (← typeInfo elem).bytes)
          let old ← Builtin.firstCells size sLen (.slice base sLen sCap)
          let new ← app
          let rest:=Builtin.zeroCells (← zeroValue elem).cells (newCap - (sLen + n))
          pure (Value.slice (some (← newRow elem (old ++ new ++ rest))) (sLen + n) newCap)):=by
        repeat' (first | with_reducible exact ha | (first | with_reducible exact Sim2.pure _ | with_reducible exact Sim2.pure' _ | with_reducible (first | exact sim_unsupported _ rfl | exact sim_noView _ | exact sim_numberAt _ | exact SimI.out) | with_reducible refine Sim2.array _ _ (fun _ _=>?_) _ | with_reducible refine Sim2.range _ _ (fun _ _=>?_) _ | ((with_reducible refine Sim2.shape' _ (fun _=>?_) ?_);rotate_left;(exact (fun _=>⟨_,rfl,rfl⟩))) | ((with_reducible refine Sim2.viewAt _ ?_ (fun _=>?_));rotate_left;(exact (fun _=>⟨_,rfl,rfl⟩))) | (with_reducible refine Sim2.getObj _ (fun _=>?_) (fun _ _=>?_) (fun _ _ _=>?_) ?_) <;> (first | (exact (fun _=>⟨_,rfl,rfl⟩)) | exact Sim2.dead (fun _=>⟨_,rfl,rfl⟩) | skip) | with_reducible refine Sim2.bind' ?_ (fun _=>?_) | with_reducible refine Sim2.ite ?_ ?_ | split | dsimp only))
      have hc:Sim P (do
          if Builtin.nextslicecap (sLen + n) sCap * (← typeInfo elem).bytes > 2 ^ 48 then (if zeros then runtimePanic (.error "growslice: len out of range") else do
            if !(← Builtin.mayShare size sLen n base x) then mark .noRoom
            unsupported (.resourceLimit "append: a slice or a string whose bytes no memory bears"))
          let newCap ← choose (.appendCap (sLen + n) sCap elem)
          askRoom (newCap * (← typeInfo elem).bytes)
          let old ← Builtin.firstCells size sLen (.slice base sLen sCap)
          let new ← app
          let rest:=Builtin.zeroCells (← zeroValue elem).cells (newCap - (sLen + n))
          pure (Value.slice (some (← newRow elem (old ++ new ++ rest))) (sLen + n) newCap)):=by
        refine Sim2.bind' (sim_typeInfo _) fun i=>?_
        dsimp only
        split
        · refine Sim2.bind' ?_ fun _=>hb
          split
          · exact sim_runtimePanic _
          · refine Sim2.dead fun v=>?_
            obtain ⟨b,h⟩:=mayShare_ok (P:=P) size sLen n base x v
            rw [run_ok h]
            cases b <;> exact ⟨_,rfl,rfl⟩
        · exact hb
      split
      · refine Sim2.bind' ha fun _=>?_
        split
        · exact Sim2.bind' (sim_storeCells _ _ _) fun _=>Sim2.pure' _
        · exact Sim2.pure' _
      · refine Sim2.bind' (sim_typeInfo _) fun i=>?_
        split
        · exact Sim2.bind' (sim_runtimePanic _) fun _=>hc
        · exact hc
    split
    · refine Sim2.bind' (sim_underlying _) fun d=>?_
      refine Sim2.bind' (Sim2.pure' _) fun zeros=>?_
      refine Sim2.ite ?_ ?_
      · refine Sim2.bind' (sim_asInt _) fun l=>?_
        refine Sim2.ite ?_ ?_
        · refine Sim2.bind' (sim_runtimePanic _) fun _=>?_
          refine Sim2.bind' (sim_typeInfo _) fun i=>?_
          refine Sim2.ite ?_ ?_
          · exact Sim2.bind' (sim_choose _) fun _=>Sim2.bind' (sim_runtimePanic _) fun _=>Sim2.bind' (Sim2.pure' _) fun n=>key zeros n
          · exact Sim2.bind' (Sim2.pure' _) fun n=>key zeros n
        · refine Sim2.bind' (sim_typeInfo _) fun i=>?_
          refine Sim2.ite ?_ ?_
          · exact Sim2.bind' (sim_choose _) fun _=>Sim2.bind' (sim_runtimePanic _) fun _=>Sim2.bind' (Sim2.pure' _) fun n=>key zeros n
          · exact Sim2.bind' (Sim2.pure' _) fun n=>key zeros n
      · exact Sim2.bind' (sim_lenOf _) fun n=>key zeros n
    · refine Sim2.bind' (Sim2.pure' _) fun zeros=>?_
      refine Sim2.ite ?_ ?_
      · refine Sim2.bind' (sim_asInt _) fun l=>?_
        refine Sim2.ite ?_ ?_
        · refine Sim2.bind' (sim_runtimePanic _) fun _=>?_
          refine Sim2.bind' (sim_typeInfo _) fun i=>?_
          refine Sim2.ite ?_ ?_
          · exact Sim2.bind' (sim_choose _) fun _=>Sim2.bind' (sim_runtimePanic _) fun _=>Sim2.bind' (Sim2.pure' _) fun n=>key zeros n
          · exact Sim2.bind' (Sim2.pure' _) fun n=>key zeros n
        · refine Sim2.bind' (sim_typeInfo _) fun i=>?_
          refine Sim2.ite ?_ ?_
          · exact Sim2.bind' (sim_choose _) fun _=>Sim2.bind' (sim_runtimePanic _) fun _=>Sim2.bind' (Sim2.pure' _) fun n=>key zeros n
          · exact Sim2.bind' (Sim2.pure' _) fun n=>key zeros n
      · exact Sim2.bind' (sim_lenOf _) fun n=>key zeros n
  · exact sim_stuck _
instance (a:Array TypeId) (t:TypeId) (x:Array Value):SimI P (Builtin.append_ a t x):=⟨sim_append a t x⟩
end
end Go.Proofs.Ytndppafplgilbaa
