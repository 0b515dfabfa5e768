/- THE PURE READING OF A GO FUNCTION, 13: the walk by simp: what goes on afterwards stands where simp does not look (an instance), and each step is a rewriting rule told by its head. -/
import Derived.Test.YtflpcgcgeffolaaDoorPgR
set_option linter.unusedVariables false
set_option linter.unusedSimpArgs false
namespace PG
open Go Go.RowKit

class KT where
  k : ES → Prop
class QT where
  q : Exit → ES → Prop
class VT (α : Type) where
  k : α → Prop
class PT where
  p : Prop

def qexec (E : PE) (N : Nat) (c : Code) (s : ES) [Q : QT] : Prop := pexec E N c Q.q s
def qops (E : PE) (ops l : List Oper) (s : ES) [K : KT] : Prop := pops E ops l s K.k
def qdo (E : PE) (dst : Option Tmp) (op : Op) (s : ES) [K : KT] : Prop := pstep E ⟨dst, op, 0, "", #[], none⟩ s K.k
def qval {α : Type} (v : Option α) [K : VT α] : Prop := pval v K.k
def qbool (v : Option SV) [T : PT] [F : PT] : Prop := pbool v T.p F.p
def qfree (b : Option (Bk × Bool)) [K : PT] : Prop := pfree b K.p
def qif (b : Bool) [X : PT] [Y : PT] : Prop := pif b X.p Y.p
def qcont (E : PE) (s : ES) (dst : Option Tmp) (fz : List Nat) (o : Out) [K : KT] : Prop := pcont E s dst fz K.k o
def qcall (E : PE) (f : FuncId) (args : List PV) [K : VT PV] : Prop := PCW E f args K.k
def qloop (E : PE) (N : Nat) (c : Code) (s : ES) [Q : QT] : Prop := PLoop E N c Q.q s
def qrange (E : PE) (N : Nat) (f : Operand) (ps : Array Tmp) (x y : Code) (s : ES) [Q : QT] : Prop := PRange E N f ps x y Q.q s
/-- A call that may write what it is handed. -/
def qinl (E : PE) (s : ES) (dst : Option Tmp) (f : FuncId) (args : List SV) [K : KT] : Prop := PIW E s dst f args K.k
/-- A guard's slot. -/
def qgs (v : Option SV) [T : PT] [F : PT] [U : PT] : Prop := pgs v T.p F.p U.p
/-- Under 'want', the first, else the second. -/
def qgrd (want : Bool) [X : PT] [Y : PT] : Prop := pgrd want X.p Y.p
/-- A side goal, then what goes on. -/
def qand (c : Prop) [X : PT] : Prop := c ∧ X.p

theorem walk {E : PE} {N : Nat} {c : Code} {Q : Exit → ES → Prop} {s : ES} (h : @qexec E N c s ⟨Q⟩) : pexec E N c Q s := h

section
variable {E : PE} {N : Nat} {s : ES} {K : KT} {Q : QT} {ops rest : List Oper} {dst : Option Tmp} {ty : TypeId} {pos : String} {after : Array Edge}

theorem qexec_seq {a b : Code} : @qexec E N (.seq a b) s Q = @qexec E N a s ⟨pseq (fun s' => @qexec E N b s' Q) Q.q⟩ := (rfl)
theorem qexec_skip : @qexec E N .skip s Q = Q.q .normal s := (rfl)
theorem qexec_exit {i : Nat} : @qexec E N (.exit i) s Q = Q.q (.exit i) s := (rfl)
theorem qexec_ret : @qexec E N .ret s Q = Q.q .ret s := (rfl)
theorem qexec_block {i : Nat} {c : Code} : @qexec E N (.block i c) s Q = @qexec E N c s ⟨pblk i Q.q⟩ := (rfl)
theorem qexec_range {f : Operand} {ps : Array Tmp} {x y : Code} : @qexec E N (.rangeFunc f ps x y) s Q = @qrange E N f ps x y s Q := (rfl)
theorem qexec_loop {c : Code} : @qexec E N (.loop c) s Q = @qloop E N c s Q := (rfl)
theorem qexec_cond {c : Operand} {x y : Code} {τ : List (Nat × SV)} {σ : List (Nat × (Bk × Bool))} :
    @qexec E N (.cond c x y) ⟨τ, σ⟩ Q = @qbool (opSV E (sget τ) c) ⟨@qexec E N x (setB ⟨τ, σ⟩ c true) Q⟩ ⟨@qexec E N y (setB ⟨τ, σ⟩ c false) Q⟩ := (rfl)
theorem qexec_region {id : Nat} {d : Bool} {l : List Oper} {τ : List (Nat × SV)} {σ : List (Nat × (Bk × Bool))} :
    @qexec E N (.region id l.toArray d) ⟨τ, σ⟩ Q = @qops E l l ⟨killL τ (newDsts l), σ⟩ ⟨Q.q .normal⟩ := by
  simp only [qexec, pexec, qops]
theorem qops_nil : @qops E ops [] s K = K.k s := (rfl)
theorem qops_none {op : Op} : @qops E ops (⟨dst, op, ty, pos, after, none⟩ :: rest) s K = @qdo E dst op s ⟨fun s' => @qops E ops rest s' K⟩ := (rfl)
theorem qops_some {op : Op} {j : Nat} {want : Bool} {τ : List (Nat × SV)} {σ : List (Nat × (Bk × Bool))} :
    @qops E ops (⟨dst, op, ty, pos, after, some (j, want)⟩ :: rest) ⟨τ, σ⟩ K = @qval _ (gdst ops j) ⟨fun t => @qgs (sget τ t)
    ⟨@qgrd want ⟨@qdo E dst op ⟨(t, .val (.bool true)) :: τ, σ⟩ ⟨fun s' => @qops E ops rest s' K⟩⟩ ⟨@qops E ops rest ((⟨(t, .val (.bool true)) :: τ, σ⟩ : ES).put dst (.val (.tuple []))) K⟩⟩
    ⟨@qgrd want ⟨@qops E ops rest ((⟨(t, .val (.bool false)) :: τ, σ⟩ : ES).put dst (.val (.tuple []))) K⟩ ⟨@qdo E dst op ⟨(t, .val (.bool false)) :: τ, σ⟩ ⟨fun s' => @qops E ops rest s' K⟩⟩⟩
    ⟨@qops E ops rest ((⟨(t, .val (.tuple [])) :: τ, σ⟩ : ES).put dst (.val (.tuple []))) K⟩⟩ := (rfl)
theorem put_some {τ : List (Nat × SV)} {σ : List (Nat × (Bk × Bool))} {d : Tmp} {v : SV} : (⟨τ, σ⟩ : ES).put (some d) v = ⟨(d, v) :: τ, σ⟩ := (rfl)
theorem put_none {v : SV} : s.put none v = s := (rfl)
theorem pseq_normal {K : ES → Prop} {Q : Exit → ES → Prop} : pseq K Q .normal s = K s := (rfl)
theorem pseq_ret {K : ES → Prop} {Q : Exit → ES → Prop} : pseq K Q .ret s = Q .ret s := (rfl)
theorem pseq_exit {K : ES → Prop} {Q : Exit → ES → Prop} {i : Nat} : pseq K Q (.exit i) s = Q (.exit i) s := (rfl)
theorem pblk_normal {Q : Exit → ES → Prop} {i : Nat} : pblk i Q .normal s = Q .normal s := (rfl)
theorem pblk_ret {Q : Exit → ES → Prop} {i : Nat} : pblk i Q .ret s = Q .ret s := (rfl)
theorem pblk_exit {Q : Exit → ES → Prop} {i : Nat} : pblk i Q (.exit i) s = Q .normal s := if_pos rfl
theorem pblk_other {Q : Exit → ES → Prop} {i j : Nat} (h : Nat.beq j i = false) : pblk i Q (.exit j) s = Q (.exit j) s := if_neg (fun e => by subst e; rw [show Nat.beq j j = true from Nat.beq_refl j] at h; cases h)
theorem newDsts_nil : newDsts [] = [] := (rfl)
theorem newDsts_cons {op : Op} {g : Option (Nat × Bool)} : newDsts (⟨dst, op, ty, pos, after, g⟩ :: rest) = if isNew op = true then dst.toList ++ newDsts rest else newDsts rest := (rfl)
theorem gdst_zero {op : Op} {g : Option (Nat × Bool)} : gdst (⟨dst, op, ty, pos, after, g⟩ :: rest) 0 = dst := (rfl)
theorem gdst_succ {o : Oper} {n : Nat} : gdst (o :: rest) (n + 1) = gdst rest n := (rfl)
theorem sget_cons {α : Type} {k t : Nat} {v : α} {r : List (Nat × α)} : sget ((k, v) :: r) t = if t = k then some v else sget r t := (rfl)
def presC (r : Option RV) (l : Option (List PV × List Nat)) : Option (List PV × List Nat) := match r with
  | some r => match close r, l with
    | some (v, f), some (vs, fs) => some (v :: vs, f ++ fs)
    | _, _ => none
  | none => none
/-- A byte of a text. -/
def idxS (s : ByteArray) (n : Int) : Option SV := if h : 0 ≤ n ∧ n.toNat < s.size then some (.val (.int .u8 (s[n.toNat]'h.2).toNat)) else none
theorem qdo_indexS {t : TypeId} {x y : Operand} {d : Tmp} {τ : List (Nat × SV)} {σ : List (Nat × (Bk × Bool))} {b : ByteArray} {k : IntKind} {n : Int} (ht : lk E.P t = .str) (hx : opSV E (sget τ) x = some (.val (.str b))) (hy : opSV E (sget τ) y = some (.val (.int k n)))
    (h : @qval _ (idxS b n) ⟨fun v => K.k ⟨(d, v) :: τ, σ⟩⟩) : @qdo E (some d) (.index t x y) ⟨τ, σ⟩ K := by
  show pval (stepA E (.index t x y) (opSV E (sget τ))) fun v => K.k ⟨(d, v) :: τ, σ⟩
  simp only [stepA, hx, hy, ht, svPV]
  exact h
theorem idx_tab {s : ByteArray} {n : Int} (f : Nat → Nat) (m : Nat) (hs : (Nat.beq s.size m && (List.range m).all fun i => Nat.beq (s[i]!).toNat (f i)) = true) (h0 : 0 ≤ n) (h1 : n.toNat < m) : idxS s n = some (.val (.int .u8 (f n.toNat))) := by
  simp only [Bool.and_eq_true, List.all_eq_true, List.mem_range] at hs
  obtain ⟨hsz, hall⟩ := hs
  have hsz := Nat.eq_of_beq_eq_true hsz
  have hlt : n.toNat < s.size := by omega
  have hv := Nat.eq_of_beq_eq_true (hall n.toNat h1)
  rw [getElem!_pos s n.toNat hlt] at hv
  unfold idxS
  rw [dif_pos ⟨h0, hlt⟩, ← hv]
theorem presL_nil : presL E s [] = some ([], []) := (rfl)
theorem presL_tmp {t : Tmp} {rest : List ResultVar} {τ : List (Nat × SV)} {σ : List (Nat × (Bk × Bool))} : presL E ⟨τ, σ⟩ (.tmp t :: rest) = presC (res E (sget τ) (sget σ) (.tmp t)) (presL E ⟨τ, σ⟩ rest) := (rfl)
def presC2 (v : Option PV) (l : Option (List PV × List Nat)) : Option (List PV × List Nat) := match v, l with
  | some v, some (vs, fs) => some (v :: vs, fs)
  | _, _ => none
def cellPV (E : PE) (r : Option RV) (t : TypeId) : Option PV := match r with
  | some (.ptr _ off b) => partPV E.P t b.cells off
  | _ => none
theorem cellPV_ptr {k off : Nat} {b : Bk} {t : TypeId} : cellPV E (some (.ptr k off b)) t = partPV E.P t b.cells off := (rfl)
theorem presC2_some {v : PV} {vs : List PV} {fs : List Nat} : presC2 (some v) (some (vs, fs)) = some (v :: vs, fs) := (rfl)
theorem presL_cell {a : Tmp} {t : TypeId} {rest : List ResultVar} {τ : List (Nat × SV)} {σ : List (Nat × (Bk × Bool))} : presL E ⟨τ, σ⟩ (.cell a t :: rest) = presC2 (cellPV E (res E (sget τ) (sget σ) (.tmp a)) t) (presL E ⟨τ, σ⟩ rest) := by
  simp only [presL, presC2, cellPV]
  cases res E (sget τ) (sget σ) (.tmp a) with
  | none => rfl
  | some r => cases r <;> rfl
theorem retM_normal {nb : Nat} {rs : List ResultVar} {r : SV} {bs' : List Bk} : retM E N nb rs r bs' .normal s = finM E N nb rs r bs' s := (rfl)
theorem retM_ret {nb : Nat} {rs : List ResultVar} {r : SV} {bs' : List Bk} : retM E N nb rs r bs' .ret s = finM E N nb rs r bs' s := (rfl)
theorem endR_normal {St J QX} {pre : List Nat} : endR St J QX N pre .normal s = (J pre ∧ ∀ p ∈ St pre, sget s.σ (N + p.1) = some p.2) := (rfl)
theorem endR_ret {St J QX} {pre : List Nat} : endR St J QX N pre .ret s = (∃ σ, QX pre .ret σ ∧ ∀ p ∈ σ, sget s.σ (N + p.1) = some p.2) := (rfl)
theorem endR_exit {St J QX} {pre : List Nat} {i : Nat} : endR St J QX N pre (.exit i) s = (∃ σ, QX pre (.exit i) σ ∧ ∀ p ∈ σ, sget s.σ (N + p.1) = some p.2) := (rfl)
theorem finM_val {nb : Nat} {rs : List ResultVar} {pv : PV} {fz : List Nat} {bs' : List Bk} (h0 : 0 < N) (hσ : ∀ (i : Nat) (b : Bk), bs'[i]? = some b → sget s.σ (N + i) = some (b, false)) (hl : bs'.length = nb) (hp : presF E s rs = some (pv, fz)) (hf : ∀ i, i < nb → N + i ∉ fz) : finM E N nb rs (.val pv) bs' s :=
  ⟨0, h0, fun i b hb => by
    have hlt := (List.getElem?_eq_some_iff.1 hb).1
    simp only [keyM, show i < nb by omega, if_true]; exact hσ i b hb, .inl ⟨pv, fz, rfl, hp, fun i hi => by simp only [keyM, show i < nb by omega, if_true]; exact hf i (by omega)⟩⟩
theorem retQ_normal {rs : List ResultVar} {r : PV} : retQ E rs r .normal s = (pres E s rs = some r) := (rfl)
theorem retQ_ret {rs : List ResultVar} {r : PV} : retQ E rs r .ret s = (pres E s rs = some r) := (rfl)

theorem qval_some {α : Type} {v : α} {K : VT α} : @qval α (some v) K = K.k v := (rfl)
theorem qbool_some {b : Bool} {T F : PT} : @qbool (some (.val (.bool b))) T F = @qif b T F := (rfl)
theorem qgs_bool {b : Bool} {T F U : PT} : @qgs (some (.val (.bool b))) T F U = @qif b T F := (rfl)
theorem qgs_und {T F U : PT} : @qgs (some (.val (.tuple []))) T F U = U.p := (rfl)
theorem qfree_some {b : Bk} {K : PT} : @qfree (some (b, false)) K = K.p := (rfl)
theorem qgrd_true {X Y : PT} : @qgrd true X Y = X.p := (rfl)
theorem qgrd_false {X Y : PT} : @qgrd false X Y = Y.p := (rfl)
theorem qif_true {X Y : PT} : @qif true X Y = X.p := by simp [qif, pif]
theorem qif_false {X Y : PT} : @qif false X Y = Y.p := by simp [qif, pif]
/-- What may fail becomes a side goal. -/
theorem qval_ite {α : Type} {c : Prop} [Decidable c] {v : Option α} {K : VT α} : @qval α (if c then v else none) K = @qand c ⟨@qval α v K⟩ := by
  by_cases h : c <;> simp [h, qval, pval, qand]
theorem qval_itn {α : Type} {c : Prop} [Decidable c] {v : Option α} {K : VT α} : @qval α (if c then none else v) K = @qand (¬ c) ⟨@qval α v K⟩ := by
  by_cases h : c <;> simp [h, qval, pval, qand]
theorem qand_true {X : PT} : @qand True X = X.p := by simp [qand]
theorem map_ite {α β : Type} {c : Prop} [Decidable c] {u v : Option α} {f : α → β} : Option.map f (if c then u else v) = if c then Option.map f u else Option.map f v := by
  split <;> rfl
theorem map_some' {α β : Type} {f : α → β} {v : α} : Option.map f (some v) = some (f v) := (rfl)
theorem map_none' {α β : Type} {f : α → β} : Option.map f none = none := (rfl)

/-! For the hand: how the walk goes on where simp stands. -/
theorem qif_i {b : Bool} {X Y : PT} (h1 : b = true → X.p) (h2 : b = false → Y.p) : @qif b X Y := ⟨h1, h2⟩
theorem qif_t {b : Bool} {X Y : PT} (hb : b = true) (h : X.p) : @qif b X Y := by subst hb; rw [qif_true]; exact h
theorem qif_f {b : Bool} {X Y : PT} (hb : b = false) (h : Y.p) : @qif b X Y := by subst hb; rw [qif_false]; exact h
theorem qif_d {c : Prop} [Decidable c] {X Y : PT} (h1 : c → X.p) (h2 : ¬ c → Y.p) : @qif (decide c) X Y := ⟨fun h => h1 (of_decide_eq_true h), fun h => h2 (of_decide_eq_false h)⟩
theorem qif_dt {c : Prop} [Decidable c] {X Y : PT} (hc : c) (h : X.p) : @qif (decide c) X Y := qif_t (decide_eq_true hc) h
theorem qif_df {c : Prop} [Decidable c] {X Y : PT} (hc : ¬ c) (h : Y.p) : @qif (decide c) X Y := qif_f (decide_eq_false hc) h
theorem qand_i {c : Prop} {X : PT} (hc : c) (h : X.p) : @qand c X := ⟨hc, h⟩
theorem qcall_i {f : FuncId} {args : List PV} {K : VT PV} {r : PV} (h : PC E f args r) (hk : K.k r) : @qcall E f args K := ⟨r, h, hk⟩
theorem qinl_i {τ : List (Nat × SV)} {σ : List (Nat × (Bk × Bool))} {f : FuncId} {args cargs : List SV} {bs bs' : List Bk} {r : SV} (ks : List Nat) (h : PCM E f cargs bs r bs') (hargs : args = cargs.map (ren ks)) (hnd : ks.Nodup) (hlen : ks.length = bs.length)
    (hb : ∀ (i : Nat) (b : Bk) (k : Nat), bs[i]? = some b → ks[i]? = some k → sget σ k = some (b, false)) (hd : ∀ d, dst = some d → d ∉ ks) (hd0 : dst = none → bs'.length = bs.length)
    (hk : K.k ((⟨killL τ dst.toList, (ks ++ dst.toList).zip (bs'.map fun b => (b, false)) ++ eraO σ dst⟩ : ES).put dst (ren (ks ++ dst.toList) r))) : @qinl E ⟨τ, σ⟩ dst f args K :=
  ⟨ks, cargs, bs, bs', r, h, hargs, hnd, hlen, hb, hd, hd0, hk⟩
theorem qval_i {α : Type} {v : Option α} {x : α} {K : VT α} (h : v = some x) (hk : K.k x) : @qval α v K := by subst h; exact hk

def njSV (v : Option SV) : Option SV := match v with
  | some .junk => none
  | v => v
def binV (E : PE) (op : BinOp) (t : TypeId) (x y : Option SV) : Option SV := match svPV x, svPV y with
  | some a, some b => (pbin E.P op t a b).map .val
  | _, _ => nilCmp E.P op t x y
section
variable {d : Tmp} {τ : List (Nat × SV)} {σ : List (Nat × (Bk × Bool))} {x y : Operand} {t r : TypeId}
theorem qdo_move : @qdo E (some d) (.move x) ⟨τ, σ⟩ K = @qval _ (njSV (opSV E (sget τ) x)) ⟨fun v => K.k ⟨(d, v) :: τ, σ⟩⟩ := (rfl)
theorem qdo_assign : @qdo E (some d) (.assign x) ⟨τ, σ⟩ K = @qval _ (opSV E (sget τ) x) ⟨fun v => K.k ⟨(d, v) :: τ, σ⟩⟩ := (rfl)
theorem qdo_binOp {op : BinOp} : @qdo E (some d) (.binOp op t x y r) ⟨τ, σ⟩ K = @qval _ (binV E op t (opSV E (sget τ) x) (opSV E (sget τ) y)) ⟨fun v => K.k ⟨(d, v) :: τ, σ⟩⟩ := (rfl)
theorem qdo_pick {x y z} : @qdo E (some d) (.pick x y z) ⟨τ, σ⟩ K = @qval _ (stepA E (.pick x y z) (opSV E (sget τ))) ⟨fun v => K.k ⟨(d, v) :: τ, σ⟩⟩ := (rfl)
theorem qdo_unOp {op t x} : @qdo E (some d) (.unOp op t x) ⟨τ, σ⟩ K = @qval _ (stepA E (.unOp op t x) (opSV E (sget τ))) ⟨fun v => K.k ⟨(d, v) :: τ, σ⟩⟩ := (rfl)
theorem qdo_convert {t t' x} : @qdo E (some d) (.convert t t' x) ⟨τ, σ⟩ K = @qval _ (stepA E (.convert t t' x) (opSV E (sget τ))) ⟨fun v => K.k ⟨(d, v) :: τ, σ⟩⟩ := (rfl)
theorem qdo_extract {x i} : @qdo E (some d) (.extract x i) ⟨τ, σ⟩ K = @qval _ (stepA E (.extract x i) (opSV E (sget τ))) ⟨fun v => K.k ⟨(d, v) :: τ, σ⟩⟩ := (rfl)
theorem qdo_field {t x i} : @qdo E (some d) (.field t x i) ⟨τ, σ⟩ K = @qval _ (stepA E (.field t x i) (opSV E (sget τ))) ⟨fun v => K.k ⟨(d, v) :: τ, σ⟩⟩ := (rfl)
theorem qdo_fieldAddr {t x i} : @qdo E (some d) (.fieldAddr t x i) ⟨τ, σ⟩ K = @qval _ (stepA E (.fieldAddr t x i) (opSV E (sget τ))) ⟨fun v => K.k ⟨(d, v) :: τ, σ⟩⟩ := (rfl)
theorem qdo_index {t x y} : @qdo E (some d) (.index t x y) ⟨τ, σ⟩ K = @qval _ (stepA E (.index t x y) (opSV E (sget τ))) ⟨fun v => K.k ⟨(d, v) :: τ, σ⟩⟩ := (rfl)
theorem qdo_alloc {t} : @qdo E dst (.alloc t) ⟨τ, σ⟩ K = @qval _ (stepR E (.alloc t) (res E (sget τ) (sget σ))) ⟨fun p => @qcont E ⟨τ, σ⟩ dst p.2 p.1 K⟩ := (rfl)
theorem qdo_box {t x} : @qdo E dst (.box t x) ⟨τ, σ⟩ K = @qval _ (stepR E (.box t x) (res E (sget τ) (sget σ))) ⟨fun p => @qcont E ⟨τ, σ⟩ dst p.2 p.1 K⟩ := (rfl)
theorem qdo_build {t parts} : @qdo E dst (.build t parts) ⟨τ, σ⟩ K = @qval _ (stepR E (.build t parts) (res E (sget τ) (sget σ))) ⟨fun p => @qcont E ⟨τ, σ⟩ dst p.2 p.1 K⟩ := (rfl)
theorem qdo_buildSlice {t i parts} : @qdo E dst (.buildSlice t i parts) ⟨τ, σ⟩ K = @qval _ (stepR E (.buildSlice t i parts) (res E (sget τ) (sget σ))) ⟨fun p => @qcont E ⟨τ, σ⟩ dst p.2 p.1 K⟩ := (rfl)
theorem qdo_load {t x} : @qdo E dst (.load t x) ⟨τ, σ⟩ K = @qval _ (stepR E (.load t x) (res E (sget τ) (sget σ))) ⟨fun p => @qcont E ⟨τ, σ⟩ dst p.2 p.1 K⟩ := (rfl)
theorem qdo_store {t x y} : @qdo E dst (.store t x y) ⟨τ, σ⟩ K = @qval _ (stepR E (.store t x y) (res E (sget τ) (sget σ))) ⟨fun p => @qcont E ⟨τ, σ⟩ dst p.2 p.1 K⟩ := (rfl)
theorem qdo_nilCheck {x} : @qdo E dst (.nilCheck x) ⟨τ, σ⟩ K = @qval _ (stepR E (.nilCheck x) (res E (sget τ) (sget σ))) ⟨fun p => @qcont E ⟨τ, σ⟩ dst p.2 p.1 K⟩ := (rfl)
theorem qdo_makeFunc {f a b} : @qdo E dst (.makeFunc f a b) ⟨τ, σ⟩ K = @qval _ (stepR E (.makeFunc f a b) (res E (sget τ) (sget σ))) ⟨fun p => @qcont E ⟨τ, σ⟩ dst p.2 p.1 K⟩ := (rfl)
theorem qdo_makeSlice {t x y} : @qdo E dst (.makeSlice t x y) ⟨τ, σ⟩ K = @qval _ (stepR E (.makeSlice t x y) (res E (sget τ) (sget σ))) ⟨fun p => @qcont E ⟨τ, σ⟩ dst p.2 p.1 K⟩ := (rfl)
theorem qdo_slice {t x lo hi mx} : @qdo E dst (.slice t x lo hi mx) ⟨τ, σ⟩ K = @qval _ (stepR E (.slice t x lo hi mx) (res E (sget τ) (sget σ))) ⟨fun p => @qcont E ⟨τ, σ⟩ dst p.2 p.1 K⟩ := (rfl)
theorem qdo_indexAddr {t x y} : @qdo E dst (.indexAddr t x y) ⟨τ, σ⟩ K = @qval _ (stepR E (.indexAddr t x y) (res E (sget τ) (sget σ))) ⟨fun p => @qcont E ⟨τ, σ⟩ dst p.2 p.1 K⟩ := (rfl)
theorem qdo_call {c} : @qdo E dst (.call c) ⟨τ, σ⟩ K = @qval _ (stepR E (.call c) (res E (sget τ) (sget σ))) ⟨fun p => @qcont E ⟨τ, σ⟩ dst p.2 p.1 K⟩ := (rfl)
theorem qcont_val {fz : List Nat} {v : SV} : @qcont E ⟨τ, σ⟩ dst fz (.val v) K = K.k ((⟨τ, frzL σ fz⟩ : ES).put dst v) := (rfl)
theorem qcont_new {fz : List Nat} {b : Bk} : @qcont E ⟨τ, σ⟩ (some d) fz (.new b) K = K.k ⟨(d, newSV d b) :: τ, (d, (b, false)) :: frzL σ fz⟩ := (rfl)
theorem qcont_st {fz : List Nat} {k : Nat} {b : Bk} : @qcont E ⟨τ, σ⟩ dst fz (.st k b) K = @qfree (sget σ k) ⟨@qand (k ∉ fz) ⟨K.k ((⟨τ, (k, (b, false)) :: frzL σ fz⟩ : ES).put dst .junk)⟩⟩ := (rfl)
theorem qcont_app0 {fz : List Nat} {b : Bk} : @qcont E ⟨τ, σ⟩ (some d) fz (.app none b) K = K.k ⟨(d, .row d) :: killL τ [d], (d, (b, false)) :: frzL σ fz⟩ := (rfl)
theorem qcont_app {fz : List Nat} {j : Nat} {b : Bk} : @qcont E ⟨τ, σ⟩ (some d) fz (.app (some j) b) K =
    @qfree (sget σ j) ⟨@qand (j ∉ fz) ⟨K.k ⟨(d, .row d) :: killL τ [d], (d, (b, false)) :: eraL (frzL σ fz) j⟩⟩⟩ := (rfl)
theorem qcont_inl {fz : List Nat} {f : FuncId} {args : List SV} : @qcont E ⟨τ, σ⟩ dst fz (.inl f args) K = @qinl E ⟨τ, σ⟩ dst f args K := (rfl)
theorem qcont_call {fz : List Nat} {f : FuncId} {args : List PV} : @qcont E ⟨τ, σ⟩ dst fz (.call f args) K = @qcall E f args ⟨fun r => K.k ((⟨τ, frzL σ fz⟩ : ES).put dst (.val r))⟩ := (rfl)
end
theorem njSV_val {v : PV} : njSV (some (.val v)) = some (.val v) := (rfl)
theorem njSV_nil : njSV (some .nil) = some .nil := (rfl)
theorem njSV_row {k : Nat} : njSV (some (.row k)) = some (.row k) := (rfl)
theorem njSV_ptr {k o : Nat} : njSV (some (.ptr k o)) = some (.ptr k o) := (rfl)
theorem njSV_sub {k o n : Nat} : njSV (some (.sub k o n)) = some (.sub k o n) := (rfl)
section
variable {P : Program} {t : TypeId} {k k' : IntKind} {a b : Int}
theorem binV_val {op : BinOp} {v w : PV} : binV E op t (some (.val v)) (some (.val w)) = (pbin E.P op t v w).map .val := (rfl)
theorem binV_nil {op : BinOp} : binV E op t (some .nil) (some .nil) = nilCmp E.P op t (some .nil) (some .nil) := (rfl)
theorem binV_nn {op : BinOp} {n : Nat} {cs : List PV} : binV E op t (some (.val (.nn n cs))) (some .nil) = nilCmp E.P op t (some (.val (.nn n cs))) (some .nil) := (rfl)
theorem bin_add : pbin P .add t (.int k a) (.int k b) = some (.int k (k.wrap (a + b))) := if_pos rfl
theorem bin_sub : pbin P .sub t (.int k a) (.int k b) = some (.int k (k.wrap (a - b))) := if_pos rfl
theorem bin_mul : pbin P .mul t (.int k a) (.int k b) = some (.int k (k.wrap (a * b))) := if_pos rfl
theorem bin_quo : pbin P .quo t (.int k a) (.int k b) = if b = 0 then none else some (.int k (k.wrap (a.tdiv b))) := if_pos rfl
theorem bin_rem : pbin P .rem t (.int k a) (.int k b) = if b = 0 then none else some (.int k (a.tmod b)) := if_pos rfl
theorem bin_and : pbin P .and t (.int k a) (.int k b) = some (.int k (bits .and k a b)) := if_pos rfl
theorem bin_or : pbin P .or t (.int k a) (.int k b) = some (.int k (bits .or k a b)) := if_pos rfl
theorem bin_xor : pbin P .xor t (.int k a) (.int k b) = some (.int k (bits .xor k a b)) := if_pos rfl
theorem bin_andNot : pbin P .andNot t (.int k a) (.int k b) = some (.int k (bits .andNot k a b)) := if_pos rfl
theorem bin_eql : pbin P .eql t (.int k a) (.int k b) = some (.bool (decide (a = b))) := if_pos rfl
theorem bin_neq : pbin P .neq t (.int k a) (.int k b) = some (.bool (decide (a ≠ b))) := if_pos rfl
theorem bin_lss : pbin P .lss t (.int k a) (.int k b) = some (.bool (decide (a < b))) := if_pos rfl
theorem bin_leq : pbin P .leq t (.int k a) (.int k b) = some (.bool (decide (a ≤ b))) := if_pos rfl
theorem bin_gtr : pbin P .gtr t (.int k a) (.int k b) = some (.bool (decide (a > b))) := if_pos rfl
theorem bin_geq : pbin P .geq t (.int k a) (.int k b) = some (.bool (decide (a ≥ b))) := if_pos rfl
theorem bin_shl : pbin P .shl t (.int k a) (.int k' b) = if b < 0 then none else some (.int k (k.wrap (a * 2 ^ (min b.toNat k.bits)))) := (rfl)
theorem bin_shr : pbin P .shr t (.int k a) (.int k' b) = if b < 0 then none else some (.int k (a.fdiv (2 ^ (min b.toNat k.bits)))) := (rfl)
theorem bin_seql {x y : ByteArray} : pbin P .eql t (.str x) (.str y) = some (.bool (decide (x = y))) := (rfl)
theorem bin_sneq {x y : ByteArray} : pbin P .neq t (.str x) (.str y) = some (.bool (decide (x ≠ y))) := (rfl)
theorem bin_sadd {x y : ByteArray} : pbin P .add t (.str x) (.str y) = if x.size + y.size ≤ maxLen then some (.str (x ++ y)) else none := (rfl)
theorem bin_aeql {xs ys : List PV} : pbin P .eql t (.agg xs) (.agg ys) = if flat P t = true ∧ isStruct P t = true then (eqCells P (fieldTypes P t) xs ys).map .bool else none := (rfl)
theorem bin_aneq {xs ys : List PV} : pbin P .neq t (.agg xs) (.agg ys) = if flat P t = true ∧ isStruct P t = true then (eqCells P (fieldTypes P t) xs ys).map fun b => .bool (!b) else none := (rfl)
def eqAnd (x y : Option Bool) : Option Bool := match x, y with
  | some x, some y => some (x && y)
  | _, _ => none
theorem eqAnd_some {x y : Bool} : eqAnd (some x) (some y) = some (x && y) := (rfl)
theorem eqCells_nil {xs ys : List PV} : eqCells P [] xs ys = some true := by unfold eqCells; rfl
theorem eqCells_cons {t : TypeId} {ts : List TypeId} {x y : PV} {xs ys : List PV} : eqCells P (t :: ts) (x :: xs) (y :: ys) = eqAnd (eqCell P t x y) (eqCells P ts xs ys) := by
  rw [eqCells]
  rfl
theorem bin_beql {x y : Bool} : pbin P .eql t (.bool x) (.bool y) = match lk P t with | .bool => some (.bool (x == y)) | _ => none := (rfl)
theorem bin_bneq {x y : Bool} : pbin P .neq t (.bool x) (.bool y) = match lk P t with | .bool => some (.bool (x != y)) | _ => none := (rfl)
theorem un_not {b : Bool} : pun .not (.bool b) = some (.bool (!b)) := (rfl)
theorem un_neg : pun .neg (.int k a) = some (.int k (k.wrap (0 - a))) := (rfl)
end
theorem nj_ite {c : Prop} [Decidable c] {u v : Option SV} : njSV (if c then u else v) = if c then njSV u else njSV v := by
  split <;> rfl
end
end PG
