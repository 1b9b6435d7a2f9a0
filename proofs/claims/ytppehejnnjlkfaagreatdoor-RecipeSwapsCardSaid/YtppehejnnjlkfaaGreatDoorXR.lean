/-
  Stepping through a text of the interpreter's with symbols: rules in continuation form.
-/
import Derived.Test.YtppehejnnjlkfaaGreatDoorXQ
set_option linter.unusedVariables false
set_option linter.unusedSimpArgs false
universe u
namespace Go.Xec
open Go

/-- A mark: what bears it is not gone into by the simplifier. -/
abbrev Un {α : Sort u} (_ : α) : Type := Unit
def Bd {α : Type} (o : Option α) (K : α → Prop) (_ : Un K := ()) : Prop := ∃ v, o = some v ∧ K v
theorem Bd_some {α : Type} (v : α) (K : α → Prop) : Bd (some v) K = K v := propext ⟨(fun ⟨_, h, k⟩ => by cases h; exact k), fun k => ⟨v, rfl, k⟩⟩
theorem Bd_none {α : Type} (K : α → Prop) : Bd none K = False := propext ⟨(fun ⟨_, h, k⟩ => by cases h), False.elim⟩
theorem Bd_bind {α β : Type} (o : Option α) (f : α → Option β) (K : β → Prop) : Bd (o.bind f) K = Bd o fun v => Bd (f v) K := by
  cases o
  · simp only [Option.bind_none, Bd_none]
  · simp only [Option.bind_some, Bd_some]
theorem Bd_map {α β : Type} (o : Option α) (f : α → β) (K : β → Prop) : Bd (o.map f) K = Bd o fun v => K (f v) := by
  cases o
  · simp only [Option.map_none, Bd_none]
  · simp only [Option.map_some, Bd_some]
theorem Bd.mono {α : Type} {o : Option α} {K K' : α → Prop} (h : Bd o K) (hk : ∀ v, K v → K' v) : Bd o K' := by
  obtain ⟨v, e, k⟩ := h; exact ⟨v, e, hk v k⟩

theorem Bd_ext {α : Type} {o : Option α} {K K' : α → Prop} (h : ∀ v, K v = K' v) : Bd o K = Bd o K' := by
  obtain rfl : K = K' := funext h
  rfl

theorem Bd_if {α : Type} {c : Prop} [Decidable c] {a b : Option α} {K : α → Prop} (h : c) : Bd (if c then a else b) K = Bd a K := by rw [if_pos h]

/-- A branch. -/
def Cd (v : AVal) (A B : Unit → Prop) (_ : Un A := ()) (_ : Un B := ()) : Prop := match v with
  | .bool b => if b then A () else B ()
  | _ => False
theorem Cd_true (A B : Unit → Prop) : Cd (.bool true) A B = A () := by simp [Cd]
theorem Cd_false (A B : Unit → Prop) : Cd (.bool false) A B = B () := by simp [Cd]
theorem Cd_split {b : Bool} {A B : Unit → Prop} (hA : b = true → A ()) (hB : b = false → B ()) : Cd (.bool b) A B := by
  cases b
  · rw [Cd_false]; exact hB rfl
  · rw [Cd_true]; exact hA rfl
/-- A guard. -/
def Gd (v : AVal) (w : Bool) (A B : Unit → Prop) (_ : Un A := ()) (_ : Un B := ()) : Prop := match v with
  | .bool b => if b = w then A () else B ()
  | .undef => B ()
  | _ => False
theorem Gd_tt (A B : Unit → Prop) : Gd (.bool true) true A B = A () := by simp [Gd]
theorem Gd_tf (A B : Unit → Prop) : Gd (.bool true) false A B = B () := by simp [Gd]
theorem Gd_ft (A B : Unit → Prop) : Gd (.bool false) true A B = B () := by simp [Gd]
theorem Gd_ff (A B : Unit → Prop) : Gd (.bool false) false A B = A () := by simp [Gd]
theorem Gd_undef (w : Bool) (A B : Unit → Prop) : Gd .undef w A B = B () := by simp [Gd]
theorem Gd_split {b w : Bool} {A B : Unit → Prop} (hA : b = w → A ()) (hB : b = !w → B ()) : Gd (.bool b) w A B := by
  cases b <;> cases w <;> simp_all [Gd]

section
variable (C : Cfg) (inl : Inl) (fid rid c : Nat)
def Ro (i : Nat) (ops : List XOper) (st : St) (K : St → Prop) : Prop := Bd (runOps C inl fid rid c i ops st) K
def RoF (i : Nat) (ops : List XOper) (st : St) (K : St → List Foot → Prop) : Prop := Bd (runOpsF C inl fid rid c i ops st) fun r => K r.1 r.2
/-- What an operation gives. -/
def opV (key : Key) (op : XOp) (tm : Nat → AVal) (hp : Heap) (nc : Nat) : Option (AVal × Heap × Nat) := runP inl (rdOf C key op (arg tm)) hp nc

variable {C inl fid rid c}
theorem Ro_nil (i : Nat) (st : St) (K : St → Prop) : Ro C inl fid rid c i [] st K = K st := by simp [Ro, runOps, Bd_some]
theorem stepO_none (key : Key) (d : Option Nat) (op : XOp) (tm : Nat → AVal) (hp : Heap) (nc : Nat) :
    stepO C inl key ⟨d, none, op⟩ ⟨tm, hp, nc⟩ = (opV C inl key op tm hp nc).map fun r => ⟨putO tm d r.1, r.2.1, r.2.2⟩ := by
  simp [stepO, progO, goes, opV]
theorem Ro_cons (i : Nat) (d : Option Nat) (op : XOp) (os : List XOper) (tm : Nat → AVal) (hp : Heap) (nc : Nat) (K : St → Prop) :
    Ro C inl fid rid c i (⟨d, none, op⟩ :: os) ⟨tm, hp, nc⟩ K = Bd (opV C inl (site fid rid i, c) op tm hp nc) fun r => Ro C inl fid rid c (i + 1) os ⟨putO tm d r.1, r.2.1, r.2.2⟩ K := by
  unfold Ro
  rw [runOps, stepO_none, Bd_bind, Bd_map]
theorem stepO_some (key : Key) (d : Option Nat) (s : Nat) (w : Bool) (op : XOp) (tm : Nat → AVal) (hp : Heap) (nc : Nat) (K : St → Prop) :
    Bd (stepO C inl key ⟨d, some (s, w), op⟩ ⟨tm, hp, nc⟩) K =
      Gd (tm s) w (fun _ => Bd (opV C inl key op tm hp nc) fun r => K ⟨putO tm d r.1, r.2.1, r.2.2⟩) (fun _ => K ⟨putO tm d .undef, hp, nc⟩) := by
  simp only [stepO, progO, goes, Gd]
  cases e : tm s <;> simp [Bd_none, Bd_map, Bd_some, opV, runP, Rd.run, applyW]
  rename_i b
  cases b <;> cases w <;> simp [Bd_map, Bd_some, runP, Rd.run, applyW, opV]
theorem Ro_consG (i : Nat) (d : Option Nat) (s : Nat) (w : Bool) (op : XOp) (os : List XOper) (tm : Nat → AVal) (hp : Heap) (nc : Nat) (K : St → Prop) :
    Ro C inl fid rid c i (⟨d, some (s, w), op⟩ :: os) ⟨tm, hp, nc⟩ K =
      Gd (tm s) w (fun _ => Bd (opV C inl (site fid rid i, c) op tm hp nc) fun r => Ro C inl fid rid c (i + 1) os ⟨putO tm d r.1, r.2.1, r.2.2⟩ K) (fun _ => Ro C inl fid rid c (i + 1) os ⟨putO tm d .undef, hp, nc⟩ K) := by
  unfold Ro
  rw [runOps, Bd_bind, stepO_some]
theorem Ro_append {ops1 ops2 : List XOper} {i : Nat} {st : St} {K : St → Prop} : Ro C inl fid rid c i (ops1 ++ ops2) st K = Ro C inl fid rid c i ops1 st fun st' => Ro C inl fid rid c (i + ops1.length) ops2 st' K := by
  induction ops1 generalizing i st with
  | nil => simp [Ro_nil]
  | cons o os ih =>
    unfold Ro at ih ⊢
    simp only [List.cons_append, runOps, Bd_bind]
    refine Bd_ext fun v => ?_
    rw [ih, List.length_cons, show i + 1 + os.length = i + (os.length + 1) by omega]
theorem Ro.mono {i : Nat} {ops : List XOper} {st : St} {K K' : St → Prop} (h : Ro C inl fid rid c i ops st K) (hk : ∀ s, K s → K' s) : Ro C inl fid rid c i ops st K' := Bd.mono h hk

theorem RoF_nil (i : Nat) (st : St) (K : St → List Foot → Prop) : RoF C inl fid rid c i [] st K = K st [] := by simp [RoF, runOpsF, Bd_some]
theorem RoF_eq (i : Nat) (o : XOper) (os : List XOper) (st : St) (K : St → List Foot → Prop) :
    RoF C inl fid rid c i (o :: os) st K = Bd (stepO C inl (site fid rid i, c) o st) fun st' => RoF C inl fid rid c (i + 1) os st' fun s fs => K s (foot C (site fid rid i, c) o st st'.hp :: fs) := by
  unfold RoF
  rw [runOpsF, Bd_bind]
  refine Bd_ext fun v => ?_
  rw [Bd_map]
theorem RoF_cons (i : Nat) (d : Option Nat) (op : XOp) (os : List XOper) (tm : Nat → AVal) (hp : Heap) (nc : Nat) (K : St → List Foot → Prop) :
    RoF C inl fid rid c i (⟨d, none, op⟩ :: os) ⟨tm, hp, nc⟩ K = Bd (opV C inl (site fid rid i, c) op tm hp nc) fun r => RoF C inl fid rid c (i + 1) os ⟨putO tm d r.1, r.2.1, r.2.2⟩ fun s fs => K s (footP (rdOf C (site fid rid i, c) op (arg tm)) hp r.2.1 :: fs) := by
  rw [RoF_eq, stepO_none, Bd_map]
  rfl
theorem RoF_consG (i : Nat) (d : Option Nat) (s : Nat) (w : Bool) (op : XOp) (os : List XOper) (tm : Nat → AVal) (hp : Heap) (nc : Nat) (K : St → List Foot → Prop) :
    RoF C inl fid rid c i (⟨d, some (s, w), op⟩ :: os) ⟨tm, hp, nc⟩ K =
      Gd (tm s) w (fun _ => Bd (opV C inl (site fid rid i, c) op tm hp nc) fun r => RoF C inl fid rid c (i + 1) os ⟨putO tm d r.1, r.2.1, r.2.2⟩ fun s fs => K s (footP (rdOf C (site fid rid i, c) op (arg tm)) hp r.2.1 :: fs))
        (fun _ => RoF C inl fid rid c (i + 1) os ⟨putO tm d .undef, hp, nc⟩ fun s fs => K s ((.kn [], []) :: fs)) := by
  rw [RoF_eq, stepO_some]
  unfold Gd
  cases e : tm s with
  | bool b =>
    have e1 : ∀ h', foot C (site fid rid i, c) ⟨d, some (s, w), op⟩ ⟨tm, hp, nc⟩ h' = if b = w then footP (rdOf C (site fid rid i, c) op (arg tm)) hp h' else (.kn [], []) := by
      intro h'
      simp only [foot, progO, goes, e]
      cases b <;> cases w <;> rfl
    cases b <;> cases w <;> simp at e1 ⊢ <;> exact iff_of_eq (Bd_ext fun r => by rw [e1])
  | undef =>
    have e1 : ∀ h', foot C (site fid rid i, c) ⟨d, some (s, w), op⟩ ⟨tm, hp, nc⟩ h' = (.kn [], []) := by
      intro h'
      simp only [foot, progO, goes, e]
      rfl
    simp only [e1]
  | _ => rfl

/-! ### code -/
def Ev (fid : Nat) (x : XCode) (st : St) (Q : Out → St → Prop) : Prop := Bd (execC C inl fid x st) fun r => Q r.1 r.2
def EvN (fid : Nat) (n : Nat) (x : XCode) (st : St) (Q : Out → St → Prop) : Prop := Bd (iterN n (fun s => execC C inl fid x s) st) fun r => Q r.1 r.2
end

section
variable {C : Cfg} {inl : Inl} {fid : Nat}
theorem Ev_skip (st : St) (Q : Out → St → Prop) : Ev (C := C) (inl := inl) fid .skip st Q = Q .nrm st := by simp [Ev, execC, Bd_some]
theorem Ev_ret (st : St) (Q : Out → St → Prop) : Ev (C := C) (inl := inl) fid .ret st Q = Q .ret st := by simp [Ev, execC, Bd_some]
theorem Ev_exit (i : Nat) (st : St) (Q : Out → St → Prop) : Ev (C := C) (inl := inl) fid (.exit i) st Q = Q (.ext i) st := by simp [Ev, execC, Bd_some]
/-- What comes behind a code that has ended. -/
def Nx (o : Out) (A : Unit → Prop) (B : Unit → Prop) (_ : Un A := ()) (_ : Un B := ()) : Prop := match o with
  | .nrm => A ()
  | _ => B ()
theorem Nx_nrm (A B : Unit → Prop) : Nx .nrm A B = A () := rfl
theorem Nx_ext (i : Nat) (A B : Unit → Prop) : Nx (.ext i) A B = B () := rfl
theorem Nx_ret (A B : Unit → Prop) : Nx .ret A B = B () := rfl
theorem Ev_seq (a b : XCode) (st : St) (Q : Out → St → Prop) : Ev (C := C) (inl := inl) fid (.seq a b) st Q = Ev (C := C) (inl := inl) fid a st fun o s => Nx o (fun _ => Ev (C := C) (inl := inl) fid b s Q) (fun _ => Q o s) := by
  unfold Ev
  rw [execC]
  cases execC C inl fid a st with
  | none => simp [Bd_none]
  | some r =>
    obtain ⟨o, s⟩ := r
    cases o <;> simp [Bd_some, Nx]
theorem Ev_cond (x : XArg) (a b : XCode) (st : St) (Q : Out → St → Prop) : Ev (C := C) (inl := inl) fid (.cond x a b) st Q = Cd (arg st.tm x) (fun _ => Ev (C := C) (inl := inl) fid a st Q) (fun _ => Ev (C := C) (inl := inl) fid b st Q) := by
  unfold Ev Cd
  rw [execC]
  cases arg st.tm x <;> simp [Bd_none]
  rename_i t
  cases t <;> simp
/-- Behind a block. -/
def Bx (o : Out) (i : Nat) (A : Unit → Prop) (B : Unit → Prop) (_ : Un A := ()) (_ : Un B := ()) : Prop := if o = .ext i then A () else B ()
theorem Bx_nrm (i : Nat) (A B : Unit → Prop) : Bx .nrm i A B = B () := by simp [Bx]
theorem Bx_ret (i : Nat) (A B : Unit → Prop) : Bx .ret i A B = B () := by simp [Bx]
theorem Bx_ext (i j : Nat) (A B : Unit → Prop) : Bx (.ext j) i A B = if j = i then A () else B () := by simp [Bx]
theorem Ev_block (i : Nat) (a : XCode) (st : St) (Q : Out → St → Prop) : Ev (C := C) (inl := inl) fid (.block i a) st Q = Ev (C := C) (inl := inl) fid a st fun o s => Bx o i (fun _ => Q .nrm s) (fun _ => Q o s) := by
  unfold Ev
  rw [execC]
  cases execC C inl fid a st with
  | none => simp [Bd_none]
  | some r =>
    obtain ⟨o, s⟩ := r
    cases o with
    | nrm => simp [Bd_some, Bx]
    | ret => simp [Bd_some, Bx]
    | ext j =>
      by_cases h : j = i
      · subst h; simp [Bd_some, Bx]
      · simp [Bd_some, Bx, h]
theorem Ev_loop (a : XCode) (st : St) (Q : Out → St → Prop) : Ev (C := C) (inl := inl) fid (.loop a) st Q = EvN (C := C) (inl := inl) fid 4611686018427387904 a st Q := by
  unfold Ev EvN
  rw [execC]
  rfl
theorem EvN_step (n : Nat) (a : XCode) (st : St) (Q : Out → St → Prop) : EvN (C := C) (inl := inl) fid (n + 1) a st Q = Ev (C := C) (inl := inl) fid a st fun o s => Nx o (fun _ => EvN (C := C) (inl := inl) fid n a s Q) (fun _ => Q o s) := by
  unfold Ev EvN
  rw [iterN]
  cases execC C inl fid a st with
  | none => simp [Bd_none]
  | some r =>
    obtain ⟨o, s⟩ := r
    cases o <;> simp [Bd_some, Nx]
theorem Ev.mono {a : XCode} {st : St} {Q Q' : Out → St → Prop} (h : Ev (C := C) (inl := inl) fid a st Q) (hq : ∀ o s, Q o s → Q' o s) : Ev (C := C) (inl := inl) fid a st Q' := Bd.mono h fun r => hq r.1 r.2
/-- A loop, by rounds that are counted down. -/
theorem EvN_inv {a : XCode} {Q : Out → St → Prop} (I : Nat → St → Prop)
    (hstep : ∀ n st, I n st → Ev (C := C) (inl := inl) fid a st fun o s => Nx o (fun _ => ∃ m, m < n ∧ I m s) (fun _ => Q o s)) :
    ∀ (n N : Nat) (st : St), I n st → n < N → EvN (C := C) (inl := inl) fid N a st Q := by
  intro n
  induction n using Nat.strongRecOn with
  | ind n ih =>
    intro N st hI hN
    cases N with
    | zero => omega
    | succ N =>
      rw [EvN_step]
      refine (hstep n st hI).mono fun o s h => ?_
      cases o with
      | nrm =>
        obtain ⟨m, hm, hI'⟩ := h
        exact ih m hm N s hI' (by omega)
      | ext i => exact h
      | ret => exact h
theorem Ev_loop_inv {a : XCode} {Q : Out → St → Prop} (I : Nat → St → Prop) {n : Nat} {st : St}
    (h0 : I n st) (hn : n < 4611686018427387904)
    (hstep : ∀ n st, I n st → Ev (C := C) (inl := inl) fid a st fun o s => Nx o (fun _ => ∃ m, m < n ∧ I m s) (fun _ => Q o s)) :
    Ev (C := C) (inl := inl) fid (.loop a) st Q := by
  rw [Ev_loop]
  exact EvN_inv I hstep n _ st h0 hn

theorem Ev_reg0 (id : Nat) (ops : List XOper) (tm : Nat → AVal) (hp : Heap) (nc : Nat) (Q : Out → St → Prop) :
    Ev (C := C) (inl := inl) fid (.reg id ops none) ⟨tm, hp, nc⟩ Q = Ro C inl fid id nc 0 ops ⟨tm, hp, nc + 1⟩ fun s => Q .nrm s := by
  unfold Ev Ro
  rw [execC, Bd_map]
  rfl
theorem Ev_reg1 (id : Nat) (ops : List XOper) (tm : Nat → AVal) (hp : Heap) (nc : Nat) (Q : Out → St → Prop) :
    Ev (C := C) (inl := inl) fid (.reg id ops (some ⟨[]⟩)) ⟨tm, hp, nc⟩ Q = Ro C inl fid id nc 0 ops ⟨tm, hp, nc + 1⟩ fun s => Q .nrm s := by
  unfold Ev Ro
  rw [execC, Bd_map]
  rfl
/-- Operations that must be apart. -/
def Hk (b : Bool) (Q : Unit → Prop) (_ : Un Q := ()) : Prop := b = true ∧ Q ()
theorem Hk_true (Q : Unit → Prop) : Hk true Q = Q () := by simp [Hk]
theorem Ev_reg2 (id : Nat) (ops : List XOper) (p : Nat × Nat) (ps : List (Nat × Nat)) (tm : Nat → AVal) (hp : Heap) (nc : Nat) (Q : Out → St → Prop) :
    Ev (C := C) (inl := inl) fid (.reg id ops (some ⟨p :: ps⟩)) ⟨tm, hp, nc⟩ Q = RoF C inl fid id nc 0 ops ⟨tm, hp, nc + 1⟩ fun s fs => Hk (hotOk fs (p :: ps)) fun _ => Q .nrm s := by
  unfold Ev RoF
  rw [execC, Bd_map]
  simp only [runReg]
  cases h : runOpsF C inl fid id nc 0 ops ⟨tm, hp, nc + 1⟩ with
  | none => simp [Bd_none]
  | some r =>
    obtain ⟨s, fs⟩ := r
    simp only [Bd_some]
    by_cases hh : hotOk fs (p :: ps) = true
    · simp [hh, Bd_some, Hk]
    · simp [hh, Bd_none, Hk]
end

/-! ### operations -/
section
variable {C : Cfg} {inl : Inl} {key : Key} {tm : Nat → AVal} {hp : Heap} {nc : Nat}
def ldA (agg : Bool) (n : Nat) (x : AVal) (hp : Heap) : Option AVal := (loadR agg n x).run hp
def stA (n : Nat) (x y : AVal) (hp : Heap) : Option Heap := ((storeR n x y).run hp).map fun r => applyW hp r.2
theorem stA_undef (n : Nat) (x y : AVal) (hp : Heap) : ((storeR n x y).run hp).map (fun r => (r.1, applyW hp r.2, nc)) = (stA n x y hp).map fun h => (.undef, h, nc) := by
  have key : ∀ r, (storeR n x y).run hp = some r → r.1 = .undef := by
    intro r h
    unfold storeR at h
    split at h
    · split at h
      · simp only [Rd.run] at h
        split at h
        · split at h
          · cases h; rfl
          · cases h
        · split at h
          · split at h
            · split at h
              · cases h; rfl
              · cases h
            · cases h
          · cases h
        · cases h
        · cases h
      · cases h
    · cases h
  unfold stA
  cases h : (storeR n x y).run hp with
  | none => rfl
  | some r => simp [key r h]

theorem op_mv (x : XArg) : opV C inl key (.mv x) tm hp nc = some (arg tm x, hp, nc) := rfl
def pickA (c a b : AVal) : Option AVal := match c with
  | .bool t => some (if t then a else b)
  | _ => none
theorem pickA_true (a b : AVal) : pickA (.bool true) a b = some a := rfl
theorem pickA_false (a b : AVal) : pickA (.bool false) a b = some b := rfl
theorem op_pick (x y z : XArg) : opV C inl key (.pick x y z) tm hp nc = (pickA (arg tm x) (arg tm y) (arg tm z)).map fun v => (v, hp, nc) := by
  simp only [opV, rdOf, opR, runP, pickA]
  cases arg tm x <;> rfl
theorem op_alloc (cells : List AVal) : opV C inl key (.alloc cells) tm hp nc = some (.ptr key 0 0 0 0, upd hp key (some (.var cells)), nc) := rfl
theorem op_box (x : XArg) : opV C inl key (.box x) tm hp nc = if (cellsOf (arg tm x)).all isSc = true then some (.ptr key 0 0 0 0, upd hp key (some (.var (cellsOf (arg tm x)))), nc) else none := by
  simp only [opV, rdOf, opR, runP]; split <;> rfl
theorem op_build (zero : List AVal) (parts : List (Nat × Nat × XArg)) : opV C inl key (.build zero parts) tm hp nc = (fillA zero (parts.map fun p => (p.1, p.2.1, arg tm p.2.2))).map fun cs => (.agg cs, hp, nc) := by
  simp only [opV, rdOf, opR, runP]; split <;> simp_all [Rd.run, applyW]
theorem op_mkslice (es n : Nat) (zero : AVal) (parts : List (Nat × XArg)) : opV C inl key (.mkslice es zero n parts) tm hp nc =
    (fillE es (List.replicate n zero) (parts.map fun p => (p.1, arg tm p.2))).map fun xs => (.sl key 0 es 0 n, upd hp key (some (.row 0 es xs)), nc) := by
  simp only [opV, rdOf, opR, runP]; split <;> simp_all [Rd.run, applyW]
theorem op_load (agg : Bool) (n : Nat) (x : XArg) : opV C inl key (.load agg n x) tm hp nc = (ldA agg n (arg tm x) hp).map fun v => (v, hp, nc) := by
  simp only [opV, rdOf, opR, runP, Rd.run_bind, ldA]
  cases (loadR agg n (arg tm x)).run hp <;> rfl
theorem op_store (n : Nat) (x y : XArg) : opV C inl key (.store n x y) tm hp nc = (stA n (arg tm x) (arg tm y) hp).map fun h => (.undef, h, nc) := by
  rw [← stA_undef]; rfl
theorem op_ofO {op : XOp} {o : Option AVal} (h : rdOf C key op (arg tm) = .inl ((Rd.ofO o).bind fun v => .ret (v, []))) : opV C inl key op tm hp nc = o.map fun v => (v, hp, nc) := by
  rw [opV, h]; cases o <;> rfl
theorem op_bin (op : BinOp) (x y : XArg) : opV C inl key (.bin op x y) tm hp nc = (binA op (arg tm x) (arg tm y)).map fun v => (v, hp, nc) := op_ofO rfl
def eqBA (neg : Bool) (x y : AVal) : Option AVal := match x, y with
  | .bool a, .bool b => some (.bool (if neg then !(a == b) else a == b))
  | _, _ => none
theorem op_eqB (neg : Bool) (x y : XArg) : opV C inl key (.eqB neg x y) tm hp nc = (eqBA neg (arg tm x) (arg tm y)).map fun v => (v, hp, nc) := by
  simp only [opV, rdOf, opR, runP, eqBA]; split <;> simp_all [Rd.run, applyW]
theorem op_eqN (neg : Bool) (kd : Nat) (x : XArg) : opV C inl key (.eqN neg kd x) tm hp nc = (nilA kd (arg tm x)).map fun b => (.bool (if neg then !b else b), hp, nc) := by
  simp only [opV, rdOf, opR, runP]; cases nilA kd (arg tm x) <;> rfl
def eqAA (neg : Bool) (ks : List Nat) (x y : AVal) : Option AVal := match x, y with
  | .agg xs, .agg ys => (eqCells ks xs ys).map fun b => .bool (if neg then !b else b)
  | _, _ => none
theorem op_eqA (neg : Bool) (ks : List Nat) (x y : XArg) : opV C inl key (.eqA neg ks x y) tm hp nc = (eqAA neg ks (arg tm x) (arg tm y)).map fun v => (v, hp, nc) := by
  simp only [opV, rdOf, opR, runP, eqAA]
  cases arg tm x <;> try rfl
  cases arg tm y <;> try rfl
  rename_i xs ys
  simp only
  cases eqCells ks xs ys <;> rfl
theorem op_nilChk (x : XArg) : opV C inl key (.nilChk x) tm hp nc = if liveA (arg tm x) = true then some (arg tm x, hp, nc) else none := by
  simp only [opV, rdOf, opR, runP]; split <;> rfl
def idSA (x : AVal) : Option AVal := match x with
  | .str s => some (.str s)
  | _ => none
theorem op_idS (x : XArg) : opV C inl key (.idS x) tm hp nc = (idSA (arg tm x)).map fun v => (v, hp, nc) := by
  simp only [opV, rdOf, opR, runP, idSA]; cases arg tm x <;> rfl
theorem op_un (op : UnOp) (x : XArg) : opV C inl key (.un op x) tm hp nc = (unA op (arg tm x)).map fun v => (v, hp, nc) := op_ofO rfl
def convA (k : IntKind) (x : AVal) : Option AVal := match x with
  | .int _ n => some (.int k (k.wrap n))
  | _ => none
theorem op_conv (k : IntKind) (x : XArg) : opV C inl key (.conv k x) tm hp nc = (convA k (arg tm x)).map fun v => (v, hp, nc) := by
  simp only [opV, rdOf, opR, runP, convA]; cases arg tm x <;> rfl
theorem op_fa (off : Nat) (x : XArg) : opV C inl key (.fa off x) tm hp nc = (faA off (arg tm x)).map fun v => (v, hp, nc) := op_ofO rfl
def fldA (agg : Bool) (n off : Nat) (x : AVal) : Option AVal := match x with
  | .agg cs => takeV agg n off cs
  | _ => none
theorem op_fld (agg : Bool) (n off : Nat) (x : XArg) : opV C inl key (.fld agg n off x) tm hp nc = (fldA agg n off (arg tm x)).map fun v => (v, hp, nc) := by
  simp only [opV, rdOf, opR, runP, fldA]
  cases arg tm x <;> try rfl
  rename_i cs
  simp only
  cases takeV agg n off cs <;> rfl
theorem op_iaA (n es : Nat) (x i : XArg) : opV C inl key (.iaA n es x i) tm hp nc = (iaAA n es (arg tm x) (arg tm i)).map fun v => (v, hp, nc) := op_ofO rfl
theorem op_iaS (es : Nat) (x i : XArg) : opV C inl key (.iaS es x i) tm hp nc = (iaSA es (arg tm x) (arg tm i)).map fun v => (v, hp, nc) := op_ofO rfl
theorem op_ixA (agg : Bool) (n es : Nat) (x i : XArg) : opV C inl key (.ixA agg n es x i) tm hp nc = (ixAA agg n es (arg tm x) (arg tm i)).map fun v => (v, hp, nc) := op_ofO rfl
theorem op_ixS (x i : XArg) : opV C inl key (.ixS x i) tm hp nc = (ixSA (arg tm x) (arg tm i)).map fun v => (v, hp, nc) := op_ofO rfl
def mkSA (es bytes : Nat) (l c : AVal) : Option Nat := match l, c with
  | .int _ l, .int _ c => if 0 ≤ l ∧ l ≤ c ∧ bytes * c ≤ 281474976710656 then some l.toNat else none
  | _, _ => none
theorem op_mkS (es bytes : Nat) (zero : AVal) (l c : XArg) : opV C inl key (.mkS es bytes zero l c) tm hp nc =
    (mkSA es bytes (arg tm l) (arg tm c)).map fun n => (.sl key 0 es 0 n, upd hp key (some (.row 0 es (List.replicate n zero))), nc) := by
  simp only [opV, rdOf, opR, runP, mkSA]
  cases arg tm l <;> try rfl
  cases arg tm c <;> try rfl
  simp only
  split <;> rfl
theorem op_slS (x : XArg) (lo hi : Option XArg) : opV C inl key (.slS x lo hi) tm hp nc = (slSA (arg tm x) (lo.map (arg tm)) (hi.map (arg tm))).map fun v => (v, hp, nc) := op_ofO rfl
theorem op_slV (es : Nat) (x : XArg) (lo hi mx : Option XArg) : opV C inl key (.slV es x lo hi mx) tm hp nc = (slVA es (arg tm x) (lo.map (arg tm)) (hi.map (arg tm)) (mx.map (arg tm))).map fun v => (v, hp, nc) := op_ofO rfl
theorem op_lenS (x : XArg) : opV C inl key (.lenS x) tm hp nc = (match arg tm x with | .str s => some (.int .i64 s.size) | _ => none : Option AVal).map fun v => (v, hp, nc) := by
  simp only [opV, rdOf, opR, runP]; cases arg tm x <;> rfl
theorem op_lenV (x : XArg) : opV C inl key (.lenV x) tm hp nc = (lenVA (arg tm x)).map fun v => (v, hp, nc) := op_ofO rfl
theorem op_mnx (m : Bool) (x : XArg) (xs : List XArg) : opV C inl key (.mnx m x xs) tm hp nc = (mnxA m (arg tm x) (xs.map (arg tm))).map fun v => (v, hp, nc) := op_ofO rfl
def extA (x : AVal) (i : Nat) : Option AVal := match x with
  | .tup xs => xs[i]?
  | _ => none
theorem op_ext (x : XArg) (i : Nat) : opV C inl key (.ext x i) tm hp nc = (extA (arg tm x) i).map fun v => (v, hp, nc) := by
  simp only [opV, rdOf, opR, runP, extA]
  cases arg tm x <;> try rfl
  rename_i xs
  simp only
  cases xs[i]? <;> rfl
theorem op_mkf (f : Fn) (a b : List XArg) : opV C inl key (.mkf f a b) tm hp nc = some (.fn f (a.map (arg tm)) (b.map (arg tm)), hp, nc) := rfl
theorem op_mki (t : TypeId) (x : XArg) : opV C inl key (.mki t x) tm hp nc = some (.ifc t (arg tm x), hp, nc) := rfl
def slAH (n es : Nat) (x : AVal) (lo hi : Option AVal) (hp : Heap) : Option AVal := match x with
  | .ptr k 0 0 es' 0 => match hp k with
    | some (.var cells) => if n * es ≤ cells.length then slAA n es (.ptr k 0 0 es' 0) lo hi else none
    | _ => none
  | _ => none
theorem op_slA (n es : Nat) (x : XArg) (lo hi : Option XArg) : opV C inl key (.slA n es x lo hi) tm hp nc = (slAH n es (arg tm x) (lo.map (arg tm)) (hi.map (arg tm)) hp).map fun v => (v, hp, nc) := by
  simp only [opV, rdOf, opR, runP, slAH]
  generalize arg tm x = v
  cases v <;> try rfl
  rename_i k g i es' off
  cases g <;> try rfl
  cases i <;> try rfl
  cases off <;> try rfl
  simp only [Rd.run]
  cases hp k with
  | none => rfl
  | some b =>
    cases b with
    | row => rfl
    | obj => rfl
    | var cells =>
      simp only
      split
      · cases slAA n es (.ptr k 0 0 es' 0) (lo.map (arg tm)) (hi.map (arg tm)) <;> rfl
      · rfl
def appA (es bytes : Nat) (key : Key) (x y : AVal) (hp : Heap) : Option (AVal × Heap) := ((appR es bytes key x y).run hp).map fun r => (r.1, applyW hp r.2)
theorem op_app (es bytes : Nat) (x y : XArg) : opV C inl key (.app es bytes x y) tm hp nc = (appA es bytes key (arg tm x) (arg tm y) hp).map fun r => (r.1, r.2, nc) := by
  simp only [opV, rdOf, opR, runP, appA]
  cases (appR es bytes key (arg tm x) (arg tm y)).run hp <;> rfl
def cpyA (es : Nat) (x y : AVal) (hp : Heap) : Option (AVal × Heap) := ((cpyR es x y).run hp).map fun r => (r.1, applyW hp r.2)
theorem op_cpy (es : Nat) (x y : XArg) : opV C inl key (.cpy es x y) tm hp nc = (cpyA es (arg tm x) (arg tm y) hp).map fun r => (r.1, r.2, nc) := by
  simp only [opV, rdOf, opR, runP, cpyA]
  cases (cpyR es (arg tm x) (arg tm y)).run hp <;> rfl
def b2sA (x : AVal) (hp : Heap) : Option AVal := match x with
  | .str _ => none
  | x => ((elemsR 1 x).run hp).bind fun ys => (bytesOf ys).map fun s => .str ⟨s.toArray⟩
theorem op_b2s (x : XArg) : opV C inl key (.b2s x) tm hp nc = (b2sA (arg tm x) hp).map fun v => (v, hp, nc) := by
  simp only [opV, rdOf, opR, runP, b2sA, b2sR]
  generalize arg tm x = v
  cases v <;> simp only [Rd.run_bind, Rd.run_ofO, Rd.run_fail, Option.map_none] <;> (try rfl) <;>
  · rename_i v; first
    | (cases (elemsR 1 _).run hp with
      | none => rfl
      | some ys => simp only [Option.bind_some]; cases bytesOf ys <;> rfl)
    | skip
def rngSA (x : AVal) : Option ByteArray := match x with
  | .str s => some s
  | _ => none
theorem op_rngS (x : XArg) : opV C inl key (.rngS x) tm hp nc = (rngSA (arg tm x)).map fun s => (.ptr key 0 0 0 0, upd hp key (some (.obj (.iter s 0))), nc) := by
  simp only [opV, rdOf, opR, runP, rngSA]; cases arg tm x <;> rfl
def nxtSA (x : AVal) (hp : Heap) : Option (AVal × Heap) := ((nxtSR x).run hp).map fun r => (r.1, applyW hp r.2)
theorem op_nxtS (x : XArg) : opV C inl key (.nxtS x) tm hp nc = (nxtSA (arg tm x) hp).map fun r => (r.1, r.2, nc) := by
  simp only [opV, rdOf, opR, runP, nxtSA]; cases (nxtSR (arg tm x)).run hp <;> rfl
theorem op_mkM : opV C inl key .mkM tm hp nc = some (.mp key, upd hp key (some (.obj (.map [] 0))), nc) := rfl
def lkpA (kd : Nat) (c : Bool) (z x i : AVal) (hp : Heap) : Option (AVal × Heap) := ((lkpR kd c z x i).run hp).map fun r => (r.1, applyW hp r.2)
theorem op_lkp (kd : Nat) (c : Bool) (z : AVal) (x i : XArg) : opV C inl key (.lkp kd c z x i) tm hp nc = (lkpA kd c z (arg tm x) (arg tm i) hp).map fun r => (r.1, r.2, nc) := by
  simp only [opV, rdOf, opR, runP, lkpA]; cases (lkpR kd c z (arg tm x) (arg tm i)).run hp <;> rfl
def msetA (kd : Nat) (x i v : AVal) (hp : Heap) : Option (AVal × Heap) := ((msetR kd x i v).run hp).map fun r => (r.1, applyW hp r.2)
theorem op_mset (kd : Nat) (x i v : XArg) : opV C inl key (.mset kd x i v) tm hp nc = (msetA kd (arg tm x) (arg tm i) (arg tm v) hp).map fun r => (r.1, r.2, nc) := by
  simp only [opV, rdOf, opR, runP, msetA]; cases (msetR kd (arg tm x) (arg tm i) (arg tm v)).run hp <;> rfl
def mentA (kd : Nat) (z x i : AVal) (hp : Heap) : Option (AVal × Heap) := ((mentR kd z x i).run hp).map fun r => (r.1, applyW hp r.2)
theorem op_ment (kd : Nat) (z : AVal) (x i : XArg) : opV C inl key (.ment kd z x i) tm hp nc = (mentA kd z (arg tm x) (arg tm i) hp).map fun r => (r.1, r.2, nc) := by
  simp only [opV, rdOf, opR, runP, mentA]; cases (mentR kd z (arg tm x) (arg tm i)).run hp <;> rfl
def mdelA (kd : Nat) (x i : AVal) (hp : Heap) : Option (AVal × Heap) := ((mdelR kd x i).run hp).map fun r => (r.1, applyW hp r.2)
theorem op_mdel (kd : Nat) (x i : XArg) : opV C inl key (.mdel kd x i) tm hp nc = (mdelA kd (arg tm x) (arg tm i) hp).map fun r => (r.1, r.2, nc) := by
  simp only [opV, rdOf, opR, runP, mdelA]; cases (mdelR kd (arg tm x) (arg tm i)).run hp <;> rfl
def mstoA (x i v : AVal) (hp : Heap) : Option (AVal × Heap) := ((mstoR x i v).run hp).map fun r => (r.1, applyW hp r.2)
theorem op_msto (x i v : XArg) : opV C inl key (.msto x i v) tm hp nc = (mstoA (arg tm x) (arg tm i) (arg tm v) hp).map fun r => (r.1, r.2, nc) := by
  simp only [opV, rdOf, opR, runP, mstoA]; cases (mstoR (arg tm x) (arg tm i) (arg tm v)).run hp <;> rfl
/-- A call. -/
def callX (C : Cfg) (inl : Inl) (f : AVal) (xs : List AVal) (hp : Heap) (nc : Nat) : Option (AVal × Heap × Nat) :=
  match target f xs with
  | some (g, vs) => runP inl (match C.Γ g with | some F => .inl (callR F vs) | none => .inr (g, vs)) hp nc
  | none => none
theorem op_call (f : XArg) (xs : List XArg) : opV C inl key (.call f xs) tm hp nc = callX C inl (arg tm f) (xs.map (arg tm)) hp nc := by
  simp only [opV, rdOf, callX]
  cases target (arg tm f) (xs.map (arg tm)) with
  | none => rfl
  | some p =>
    obtain ⟨g, vs⟩ := p
    simp only
    cases C.Γ g <;> rfl
/-- A call of a function that is known; it is handed values alone. -/
theorem call_known {g : FuncId} {F : List AVal → Option AVal} {xs : List AVal} {r : AVal} (hg : C.Γ g = some F) (hl : (lendL freeze xs).run hp = some (xs, [])) (hr : F xs = some r) :
    callX C inl (.fn (.func g) [] []) xs hp nc = some (r, hp, nc) := by
  simp only [callX, target, List.nil_append, List.append_nil, hg, runP, callR, Rd.run_bind, hl, Option.bind_some, hr, Rd.run, List.map_nil, ite_self, Option.map_some, applyW]
theorem call_inl {g : FuncId} {xs fs cs : List AVal} (hg : C.Γ g = none) : callX C inl (.fn (.func g) fs cs) xs hp nc = inl g (fs ++ xs ++ cs) hp nc := by
  simp only [callX, target, hg, runP]

theorem arg_t (n : Nat) : arg tm (.t n) = tm n := rfl
theorem arg_c (v : AVal) : arg tm (.c v) = v := rfl
theorem putO_some (d : Nat) (v : AVal) : putO tm (some d) v = updT tm d v := rfl
theorem putO_none (v : AVal) : putO tm none v = tm := rfl
theorem updT_eq (d : Nat) (v : AVal) (m : Nat) : updT tm d v m = if m = d then v else tm m := rfl
theorem upd_eq (h : Heap) (k : Key) (b : Option Blk) (k' : Key) : upd h k b k' = if k' = k then b else h k' := rfl
theorem ldA_ptr (agg : Bool) (n : Nat) (k : Key) (g i es off : Nat) : ldA agg n (.ptr k g i es off) hp = (hp k).bind fun b => (b.cs g i es).bind (takeV agg n off) := by
  simp only [ldA, loadR, Rd.run]
  cases hp k with
  | none => rfl
  | some b => simp [Rd.run_ofO]
theorem ldA_pvo (agg : Bool) (n : Nat) (cs : List AVal) (off : Nat) : ldA agg n (.pvo cs off) hp = takeV agg n off cs := by
  simp [ldA, loadR, Rd.run_ofO]
theorem cs_var0 (cells : List AVal) (es : Nat) : (Blk.var cells).cs 0 0 es = some cells := by simp [Blk.cs]
theorem cs_row {g es : Nat} {elems : List AVal} {i : Nat} : (Blk.row g es elems).cs g i es = (elems[i]?).map cellsOf := by simp [Blk.cs]
theorem takeV_agg (n off : Nat) (cs : List AVal) : takeV true n off cs = if off + n ≤ cs.length then some (.agg ((cs.drop off).take n)) else none := rfl
theorem takeV_one (n off : Nat) (cs : List AVal) : takeV false n off cs = cs[off]? := rfl
theorem stA_var {k : Key} {es off n : Nat} {y : AVal} {cells : List AVal} (hk : hp k = some (.var cells)) (h1 : (cellsOf y).length = n) (h2 : (cellsOf y).all isSc = true) (h3 : off + n ≤ cells.length) :
    stA n (.ptr k 0 0 es off) y hp = some (upd hp k (some (.var (splice cells off (cellsOf y))))) := by
  simp [stA, storeR, h1, h2, Rd.run, hk, applyW, h3]
theorem stA_row {k : Key} {g i es off n : Nat} {y e : AVal} {elems : List AVal} (hk : hp k = some (.row g es elems)) (he : elems[i]? = some e) (h1 : (cellsOf y).length = n) (h2 : (cellsOf y).all isSc = true) (h3 : off + n ≤ (cellsOf e).length) :
    stA n (.ptr k g i es off) y hp = some (upd hp k (some (.row g es (elems.set i (remake e (splice (cellsOf e) off (cellsOf y))))))) := by
  simp [stA, storeR, h1, h2, Rd.run, hk, applyW, h3, he]
end

/-! ### a whole function -/
/-- A function's end. -/
def Fin (o : Out) (A : Unit → Prop) (_ : Un A := ()) : Prop := match o with
  | .ext _ => False
  | _ => A ()
theorem Fin_nrm (A : Unit → Prop) : Fin .nrm A = A () := rfl
theorem Fin_ret (A : Unit → Prop) : Fin .ret A = A () := rfl
/-- What is answered, by value. -/
def Ends (v : AVal) (hp : Heap) (r : AVal) : Prop := ((lend freeze v).run hp).map (·.1) = some r
theorem resL_nil (st : St) : resL st [] = some [] := rfl
theorem resL_tmp (tm : Nat → AVal) (hp : Heap) (nc t : Nat) (rs : List XRes) : resL ⟨tm, hp, nc⟩ (.tmp t :: rs) = (resL ⟨tm, hp, nc⟩ rs).map fun vs => tm t :: vs := by
  simp only [resL, resR]
  cases resL ⟨tm, hp, nc⟩ rs <;> rfl
theorem resL_cell (tm : Nat → AVal) (hp : Heap) (nc a n : Nat) (g : Bool) (rs : List XRes) : resL ⟨tm, hp, nc⟩ (.cell a g n :: rs) = (ldA g n (tm a) hp).bind fun v => (resL ⟨tm, hp, nc⟩ rs).map fun vs => v :: vs := by
  simp only [resL, resR, ldA]
  cases (loadR g n (tm a)).run hp with
  | none => rfl
  | some v => cases resL ⟨tm, hp, nc⟩ rs <;> rfl
theorem one_one (v : AVal) : one [v] = v := rfl
theorem one_two (v u : AVal) (vs : List AVal) : one (v :: u :: vs) = .tup (v :: u :: vs) := rfl
theorem one_nil : one [] = .tup [] := rfl

theorem pureF_of {C : Cfg} {d : Nat} {f : FuncId} {x : XFunc} {xs : List AVal} {r : AVal} (hx : C.xf f = some x) (hl : xs.length = x.np)
    (h : Ev (C := C) (inl := inlD C d) f x.body ⟨tm0 xs, fun _ => none, 0⟩ fun o st => Fin o fun _ => Bd (resL st x.res) fun vs => Ends (one vs) st.hp r) :
    pureF C (d + 1) f xs = some r := by
  obtain ⟨⟨o, st⟩, h1, h2⟩ := h
  unfold pureF
  simp only [inlD, hx, execF, hl, if_true, h1]
  cases o with
  | nrm => obtain ⟨vs, h3, h4⟩ := h2; simp only [h3, Option.map_some]; exact h4
  | ret => obtain ⟨vs, h3, h4⟩ := h2; simp only [h3, Option.map_some]; exact h4
  | ext i => exact h2.elim

theorem inl_of {C : Cfg} {d : Nat} {f : FuncId} {x : XFunc} {xs : List AVal} {hp : Heap} {nc : Nat} {K : AVal × Heap × Nat → Prop} (hx : C.xf f = some x) (hl : xs.length = x.np)
    (h : Ev (C := C) (inl := inlD C d) f x.body ⟨tm0 xs, hp, nc⟩ fun o st => Fin o fun _ => Bd (resL st x.res) fun vs => K (one vs, st.hp, st.nc)) :
    Bd (inlD C (d + 1) f xs hp nc) K := by
  obtain ⟨⟨o, st⟩, h1, h2⟩ := h
  have h3 : ∃ vs, resL st x.res = some vs ∧ K (one vs, st.hp, st.nc) := by
    cases o with
    | nrm => exact h2
    | ret => exact h2
    | ext i => exact h2.elim
  obtain ⟨vs, h3, h4⟩ := h3
  refine ⟨(one vs, st.hp, st.nc), ?_, h4⟩
  simp only [inlD, hx, execF, hl, if_true, h1]
  cases o with
  | nrm => simp only [h3, Option.map_some]
  | ret => simp only [h3, Option.map_some]
  | ext i => exact h2.elim

attribute [irreducible] Bd Cd Gd Nx Bx Fin Hk Ro RoF Ev EvN

end Go.Xec
