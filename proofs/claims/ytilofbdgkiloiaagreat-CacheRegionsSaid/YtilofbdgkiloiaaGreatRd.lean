/- Part of the proof; no condition. -/
import Derived.Test.YtilofbdgkiloiaaGreatRc
import Derived.WalkKit
import Derived.WalkSpells
import Derived.Handy
import Derived.OpenShut
set_option linter.unusedVariables false
set_option linter.unusedSimpArgs false
namespace Go.Proofs.YtilofbdgkiloiaaGreat
open Go.RowKit
set_option maxRecDepth 100000
noncomputable section
abbrev qE:Shs:=⟨[],[],[],([],[])⟩
abbrev qS(s:List (Nat×Sh))(c:List (Nat×List Sh)):Shs:=⟨s,c,[],([],[])⟩
abbrev N1:CT:=.nilr true
abbrev N0:CT:=.nilr false
abbrev CW:CT:=.int .u16
abbrev CB:CT:=.int .u8
abbrev uL(l:List CT):List Sh:=l.map fun c=>.d c ()
abbrev pP(t r:Nat):Nat×Sh:=(t,.ptr ⟨r,0,[]⟩ [0])
abbrev sP(t:Nat)(c:CT):Nat×Sh:=(t,.d c ())
abbrev Lk(n:Nat)(c:Ctr):Prop:=Lvl E0 TT libB n c
theorem aN{m:Nat}:Ej E0 TT libB m []:=trivial
theorem aC{n m:Nat}{c:Ctr}{l:List Ctr}(h:Lk n c)(r:Ej E0 TT libB m l)(hm:n≤m:=by decide):Ej E0 TT libB m (c::l):=⟨h.mono hm,r⟩
abbrev lx(i n:Nat)(s:List (Nat×Sh))(c:List (Nat×List Sh))(b:Nat):BK:=⟨i,n,⟨s,c,[],([],[])⟩,[(.exit 0,⟨s++[(b,.d .bool ())],c,[],([],[])⟩)]⟩
abbrev LI:Type:=List Int
abbrev LLI:Type:=List (List Int)
abbrev LDCe:Type:=List DCe
abbrev LDCn:Type:=List DCn
abbrev LDIn:Type:=List DIn
abbrev LDOp:Type:=List DOp
abbrev LDLn:Type:=List DLn
abbrev LDTh:Type:=List DTh
abbrev LDOu:Type:=List DOu
abbrev LDTs:Type:=List DTs
abbrev LDEn:Type:=List DEn
abbrev LLCn:Type:=List (List DCn)
abbrev T00:Type:=Bool×LI×Unit
abbrev T01:Type:=Int×Bool×Unit
abbrev T02:Type:=Int×Int×Unit
abbrev T03:Type:=Int×LI×Unit
abbrev T04:Type:=LDCe×LDLn×Unit
abbrev T05:Type:=LDOp×LDCn×Unit
abbrev T06:Type:=LI×Int×Unit
abbrev T07:Type:=LI×LLI×Unit
abbrev T08:Type:=LLCn×LDOp×Unit
abbrev T09:Type:=LLCn×LDTs×Unit
abbrev T0a:Type:=Unit×Unit×Unit
abbrev T0b:Type:=Bool×T02
abbrev T0c:Type:=Int×T01
abbrev T0d:Type:=Int×T02
abbrev T0e:Type:=Int×T06
abbrev T0f:Type:=LDCn×T02
abbrev T0g:Type:=LDIn×T07
abbrev T0h:Type:=LI×T02
abbrev T0i:Type:=LI×T03
abbrev T0j:Type:=LI×LLI×LI×Unit
abbrev T0k:Type:=Bool×Bool×Bool×Bool×Unit
abbrev T0l:Type:=Int×T0b
abbrev T0m:Type:=Int×Bool×T06
abbrev T0n:Type:=Int×T0d
abbrev T0o:Type:=Int×Int×T04
abbrev T0p:Type:=Int×T0e
abbrev T0q:Type:=Int×Int×T08
abbrev T0r:Type:=Int×T0i
abbrev T0s:Type:=LDCn×T0f
abbrev T0t:Type:=LDTh×Int×T03
abbrev T0u:Type:=LI×T0d
abbrev T0v:Type:=Unit×T0e
abbrev T0w:Type:=Unit×Unit×T04
abbrev T0x:Type:=Unit×Unit×T07
abbrev T0y:Type:=Unit×Unit×T08
abbrev T0z:Type:=Unit×Unit×Unit×LDOp×Unit
abbrev T0A:Type:=Bool×T0y
abbrev T0B:Type:=Int×T0m
abbrev T0C:Type:=Int×Int×Bool×T08
abbrev T0D:Type:=Int×T0n
abbrev T0E:Type:=Int×Int×T0g
abbrev T0F:Type:=Int×T0y
abbrev T0G:Type:=LDCe×LDLn×LI×Int×LLCn×Unit
abbrev T0H:Type:=LDIn×LI×LLI×T09
abbrev T0I:Type:=LI×T0p
abbrev T0J:Type:=LI×Int×LDCe×LDLn×LDTh×Unit
abbrev T0K:Type:=LLCn×T0q
abbrev T0L:Type:=Unit×Int×Unit×T0a
abbrev T0M:Type:=Unit×Unit×T0j
abbrev T0N:Type:=Unit×Unit×LLCn×T05
abbrev T0O:Type:=Bool×T0J
abbrev T0P:Type:=Bool×T0L
abbrev T0Q:Type:=Int×Bool×T0x
abbrev T0R:Type:=Int×Int×Bool×T0g
abbrev T0S:Type:=Int×T0D
abbrev T0T:Type:=Int×Int×T0x
abbrev T0U:Type:=Int×T0F
abbrev T0V:Type:=Int×T0J
abbrev T0W:Type:=LDCe×LDLn×LI×Int×LLCn×LDCn×Unit
abbrev T0X:Type:=LDCe×LDLn×T0w
abbrev T0Y:Type:=LDIn×T0E
abbrev T0Z:Type:=LI×T0B
abbrev T10:Type:=LI×Int×LDCe×LDLn×LDTh×Bool×Unit
abbrev T11:Type:=LI×LI×LLI×LLCn×LDOp×LDOu×Unit
abbrev T12:Type:=LI×LLI×T0x
abbrev T13:Type:=LLCn×LDOp×T0y
abbrev T14:Type:=Unit×Unit×LLCn×Nat×T05
abbrev T15:Type:=Int×T0Q
abbrev T16:Type:=Int×Int×T0A
abbrev T17:Type:=Int×T0S
abbrev T18:Type:=Int×Int×Int×Int×Unit×T01
abbrev T19:Type:=Int×T0T
abbrev T1a:Type:=Int×Int×LI×Int×Int×LLI×LDCn×Unit
abbrev T1b:Type:=Int×T0V
abbrev T1c:Type:=Int×Int×T0M
abbrev T1d:Type:=Int×LI×Int×T0l
abbrev T1e:Type:=LDIn×T0R
abbrev T1f:Type:=LLI×T0U
abbrev T1g:Type:=LLI×Int×Int×T0z
abbrev T1h:Type:=Int×Int×Bool×T0M
abbrev T1i:Type:=Int×T16
abbrev T1j:Type:=Int×T17
abbrev T1k:Type:=Int×Int×Int×Int×Int×Int×LDCn×LDCn×Unit
abbrev T1l:Type:=Int×Int×Int×Int×Int×Int×T0a
abbrev T1m:Type:=Int×T1c
abbrev T1n:Type:=Int×Int×T11
abbrev T1o:Type:=Int×Int×T12
abbrev T1p:Type:=Int×Int×T13
abbrev T1q:Type:=Int×LDCe×T0S
abbrev T1r:Type:=LDTh×T1b
abbrev T1s:Type:=LI×Int×Unit×Unit×Unit×T0g
abbrev T1t:Type:=LI×Int×Unit×Unit×T0x
abbrev T1u:Type:=LLCn×Int×Int×T0H
abbrev T1v:Type:=Int×Int×Bool×T11
abbrev T1w:Type:=Int×Int×Bool×T12
abbrev T1x:Type:=Int×Int×Bool×T13
abbrev T1y:Type:=Int×T1j
abbrev T1z:Type:=Int×Int×Int×T0U
abbrev T1A:Type:=Int×T1p
abbrev T1B:Type:=Int×LI×Int×Int×Bool×T0u
abbrev T1C:Type:=Int×T1s
abbrev T1D:Type:=LDIn×LI×LLI×LI×Int×T0w
abbrev T1E:Type:=LDLn×Int×Int×T0X
abbrev T1F:Type:=LDOu×T1n
abbrev T1G:Type:=LI×Int×LI×Int×Int×T0u
abbrev T1H:Type:=LI×LI×Int×Int×T0G
abbrev T1I:Type:=LI×LLCn×Int×Int×LDCn×T0q
abbrev T1J:Type:=LLCn×T1p
abbrev T1K:Type:=LLI×T1n
abbrev T1L:Type:=LLI×T1o
abbrev T1M:Type:=Int×Bool×T1s
abbrev T1N:Type:=Int×Int×Int×Int×Int×Bool×Bool×Bool×T00
abbrev T1O:Type:=Int×Int×Int×Int×Int×Int×Int×Int×Int×LDCn×Unit
abbrev T1P:Type:=Int×Int×T1k
abbrev T1Q:Type:=Int×T1C
abbrev T1R:Type:=Int×Int×T1t
abbrev T1S:Type:=LI×Int×Int×Int×Int×Int×T0v
abbrev T1T:Type:=LI×T1B
abbrev T1U:Type:=LI×LI×Int×Int×Bool×T0G
abbrev T1V:Type:=LLI×T1w
abbrev T1W:Type:=Unit×Int×Unit×Unit×Unit×T0J
abbrev T1X:Type:=Int×Int×T1D
abbrev T1Y:Type:=Int×Int×T1L
abbrev T1Z:Type:=Int×T1W
abbrev T20:Type:=LDCe×Int×Int×T1q
abbrev T21:Type:=LDCn×Nat×Int×Int×Int×T14
abbrev T22:Type:=LI×Int×Bool×LI×T17
abbrev T23:Type:=LI×Int×Int×LI×Int×Int×T0I
abbrev T24:Type:=LLI×Int×Int×LI×Int×Int×T0N
abbrev T25:Type:=ByteArray×LDCn×T1P
abbrev T26:Type:=Int×Int×Bool×T1D
abbrev T27:Type:=Int×Int×T1N
abbrev T28:Type:=Int×Int×Int×Int×LDCn×Int×T0P
abbrev T29:Type:=Int×Int×Int×Int×Nat×T1c
abbrev T2a:Type:=LDIn×LI×LLI×LI×Int×LDCe×LDLn×LDTh×Unit×Unit×T09
abbrev T2b:Type:=LI×Int×Int×T1B
abbrev T2c:Type:=LI×Int×Int×LI×Int×Int×T0Z
abbrev T2d:Type:=LLI×T1X
abbrev T2e:Type:=Int×Int×Bool×T1N
abbrev T2f:Type:=LDIn×LI×LLI×LI×Int×LLCn×LDTs×Unit×Int×Unit×Unit×Unit×LLCn×Unit
abbrev T2g:Type:=LI×Int×LDCe×LDLn×LDTh×T1q
abbrev T2h:Type:=LI×Int×LI×Int×Int×Int×Int×T0W
abbrev T2i:Type:=Int×Int×LLI×Int×Int×LI×T1o
abbrev T2j:Type:=LI×Int×LI×Int×Int×Int×Int×Bool×T0W
abbrev T2k:Type:=Int×Int×T2f
abbrev T2l:Type:=Int×Int×LDIn×LI×LLI×T1W
abbrev T2m:Type:=LDTh×Int×Int×T2a
abbrev T2n:Type:=LI×Int×LDCe×LDLn×LDTh×T1W
abbrev T2o:Type:=Int×Int×Bool×T2f
abbrev T2p:Type:=Int×LLI×Int×Int×LI×T1X
abbrev T2q:Type:=LDIn×LI×LLI×T2g
abbrev T2r:Type:=Nat×LI×Int×LDCe×LDLn×LDTh×Int×Int×Int×Int×Int×Int×T0s
abbrev T2s:Type:=LDIn×LI×LLI×LI×Int×LLCn×LDTs×T1W
abbrev T2t:Type:=LDIn×LI×LLI×LI×Int×LLCn×LDTs×Unit×Int×Unit×Unit×Unit×LI×Int×LDCe×LDLn×Unit×Unit
abbrev T2u:Type:=Int×Int×LDCn×T2k
abbrev T2v:Type:=Int×Int×LI×Int×Int×Int×Int×Int×Int×Int×Int×Int×Int×Int×T0k
abbrev T2w:Type:=LDIn×LI×LLI×LI×Int×LDCe×LDLn×LDTh×LI×LI×LLI×LLCn×LDOp×LDOu×LI×LLI×LDEn×LI×Unit
abbrev T2x:Type:=LDTh×Int×Int×T2n
abbrev T2y:Type:=Int×Int×Int×Int×Int×Int×LDCn×LDCn×Int×Int×Int×Int×LDCn×Int×Bool×T0n
abbrev T2z:Type:=Int×Int×T2t
abbrev T2A:Type:=LDIn×LI×LLI×LI×Int×LDCe×LDLn×LDTh×LI×LI×LLI×LLCn×LDOp×LDOu×LI×LLI×LDEn×LI×LI×Unit
abbrev T2B:Type:=Nat×Int×LI×Int×LDCe×LDLn×LDTh×LDIn×LI×LLI×T1y
abbrev T2C:Type:=Int×Bool×T2w
abbrev T2D:Type:=Int×ByteArray×Int×Int×T2q
abbrev T2E:Type:=Int×Int×Bool×T2t
abbrev T2F:Type:=LDTs×Int×Int×T2s
abbrev T2G:Type:=LLCn×T2z
abbrev T2H:Type:=Int×Int×Int×T2w
abbrev T2I:Type:=Int×Int×Int×T2A
abbrev T2J:Type:=Int×LLCn×Int×Int×LDCn×T2z
abbrev T2K:Type:=LDIn×LI×LLI×LI×Int×LDCe×LDLn×LDTh×LI×LI×LLI×LLCn×LDOp×LDOu×LI×LLI×LDEn×LI×T18
abbrev T2L:Type:=LI×Int×LDCe×LDLn×LDTh×LDIn×LI×LLI×Int×Int×Int×Int×Int×Int×LDCn×LDCn×Int×Int×Int×Int×LDCn×T0l
abbrev T2M:Type:=Nat×Bool×LI×Int×LDCe×LDLn×LDTh×T2y
abbrev T2N:Type:=Nat×T2L
abbrev T2O:Type:=Unit×Unit×Unit×Unit×Unit×Unit×Int×Int×Int×Int×Unit×Int×Bool×LI×LI×LLI×LLCn×LDOp×LDOu×Int×Int×Int×Int×LDCn×T01
abbrev T2P:Type:=Unit×Unit×Unit×Unit×Unit×Unit×Int×Int×Int×Int×Unit×Int×Bool×LI×LI×LLI×LLCn×LDOp×LDOu×T18
abbrev T2Q:Type:=LI×Int×LDCe×LDLn×LDTh×LDIn×LI×LLI×T2y
abbrev T2R:Type:=LDIn×LI×LLI×LI×Int×LDCe×LDLn×LDTh×Unit×Unit×LLCn×LDTs×Int×LDCe×Int×Int×Int×Int×T1O
abbrev T2S:Type:=LDTh×Int×Int×T2K
abbrev T2T:Type:=Nat×LDCn×Int×Int×T2Q
abbrev T2U:Type:=Nat×LDCn×Int×Int×Bool×T2Q
abbrev T2V:Type:=LDIn×LI×LLI×LI×Int×LLCn×LDTs×Unit×Int×Unit×Unit×Unit×LI×Int×LDCe×LDLn×LDTh×Int×Int×Int×Int×Int×Int×Int×LDCn×T1q
abbrev T2W:Type:=LI×Int×Unit×Unit×Unit×Unit×Int×Unit×Unit×Unit×LDIn×LI×LLI×LI×Int×LDCe×LDLn×LDTh×LI×LI×LLI×LLCn×LDOp×LDOu×LI×LLI×LDEn×LI×T0J
abbrev T2X:Type:=LDTh×Int×Int×LDCe×Int×Int×T2R
abbrev T2Y:Type:=LI×LI×LLI×LLCn×LDOp×LDOu×Int×Int×Int×Int×Int×Int×LDCn×LDCn×Unit×Unit×Unit×Unit×Unit×Unit×Int×Int×Int×Int×Unit×Int×Bool×LI×LI×LLI×LLCn×LDOp×LDOu×LI×Unit
abbrev T2Z:Type:=Int×Bool×LDIn×LI×LLI×LI×Int×LDCe×LDLn×LDTh×LI×LI×LLI×LLCn×LDOp×LDOu×LI×LLI×LDEn×LI×Int×Int×Int×Int×Int×Int×LDCn×LDCn×T18
abbrev T30:Type:=LI×Int×Unit×Unit×Unit×Unit×Int×Unit×Unit×Unit×LDIn×LI×LLI×LI×Int×LDCe×LDLn×LDTh×LI×LI×LLI×LLCn×LDOp×LDOu×LI×LLI×LDEn×LI×LI×Int×LDCe×LDLn×LDTh×T09
abbrev T31:Type:=Unit×Unit×Unit×Unit×Int×Unit×Unit×Unit×Unit×Unit×Unit×Unit×Unit×Unit×Unit×Unit×Unit×Unit×T2w
abbrev T32:Type:=Unit×Unit×Unit×Unit×Int×Unit×Unit×Unit×Unit×Unit×Unit×Unit×Unit×Unit×Unit×Unit×Unit×Unit×LDIn×LI×LLI×LI×Int×LDCe×LDLn×LDTh×LI×LI×LLI×LLCn×LDOp×LDOu×LI×LLI×Unit×LI×Unit
abbrev T33:Type:=Int×Int×T30
abbrev T34:Type:=Int×T31
abbrev T35:Type:=Int×T32
abbrev T36:Type:=LDCn×Int×Int×T2Y
abbrev T37:Type:=LDIn×LI×LLI×Unit×Int×Unit×Unit×Unit×Int×Int×Int×Int×Int×Int×Unit×Unit×LI×Int×LDCe×LDLn×LDTh×Int×LDCe×Int×Int×Int×Int×T1P
abbrev T38:Type:=LDIn×LI×LLI×Unit×Int×Unit×Unit×Unit×Int×Int×Int×Int×Int×Int×Unit×Unit×LI×Int×LDCe×LDLn×LDTh×Int×LDCe×Int×Int×Int×Int×Int×Int×Int×Int×Int×Int×Int×Int×LDCn×Unit×Unit
abbrev T39:Type:=Bool×T38
abbrev T3a:Type:=Int×Int×Bool×T30
abbrev T3b:Type:=Int×T34
abbrev T3c:Type:=LI×T34
abbrev T3d:Type:=Int×Int×T37
abbrev T3e:Type:=Int×Int×T38
abbrev T3f:Type:=Int×T3c
abbrev T3g:Type:=LDTs×Int×Int×LDCn×Int×Int×T2V
abbrev T3h:Type:=Int×Int×Bool×T37
abbrev T3i:Type:=Int×Int×Int×T33
noncomputable abbrev ap1{A0 D R:Type}(f:A0→R)(h:A0×D):R:=f h.1
noncomputable abbrev ap2{A0 A1 D R:Type}(f:A0→A1→R)(h:A0×A1×D):R:=f h.1 h.2.1
noncomputable abbrev ap3{A0 A1 A2 D R:Type}(f:A0→A1→A2→R)(h:A0×A1×A2×D):R:=f h.1 h.2.1 h.2.2.1
noncomputable abbrev ap4{A0 A1 A2 A3 D R:Type}(f:A0→A1→A2→A3→R)(h:A0×A1×A2×A3×D):R:=f h.1 h.2.1 h.2.2.1 h.2.2.2.1
noncomputable abbrev ap5{A0 A1 A2 A3 A4 D R:Type}(f:A0→A1→A2→A3→A4→R)(h:A0×A1×A2×A3×A4×D):R:=f h.1 h.2.1 h.2.2.1 h.2.2.2.1 h.2.2.2.2.1
noncomputable abbrev ap6{A0 A1 A2 A3 A4 A5 D R:Type}(f:A0→A1→A2→A3→A4→A5→R)(h:A0×A1×A2×A3×A4×A5×D):R:=f h.1 h.2.1 h.2.2.1 h.2.2.2.1 h.2.2.2.2.1 h.2.2.2.2.2.1
noncomputable abbrev ap7{A0 A1 A2 A3 A4 A5 A6 D R:Type}(f:A0→A1→A2→A3→A4→A5→A6→R)(h:A0×A1×A2×A3×A4×A5×A6×D):R:=f h.1 h.2.1 h.2.2.1 h.2.2.2.1 h.2.2.2.2.1 h.2.2.2.2.2.1 h.2.2.2.2.2.2.1
noncomputable abbrev ap8{A0 A1 A2 A3 A4 A5 A6 A7 D R:Type}(f:A0→A1→A2→A3→A4→A5→A6→A7→R)(h:A0×A1×A2×A3×A4×A5×A6×A7×D):R:=f h.1 h.2.1 h.2.2.1 h.2.2.2.1 h.2.2.2.2.1 h.2.2.2.2.2.1 h.2.2.2.2.2.2.1 h.2.2.2.2.2.2.2.1
noncomputable abbrev ap9{A0 A1 A2 A3 A4 A5 A6 A7 A8 D R:Type}(f:A0→A1→A2→A3→A4→A5→A6→A7→A8→R)(h:A0×A1×A2×A3×A4×A5×A6×A7×A8×D):R:=f h.1 h.2.1 h.2.2.1 h.2.2.2.1 h.2.2.2.2.1 h.2.2.2.2.2.1 h.2.2.2.2.2.2.1 h.2.2.2.2.2.2.2.1 h.2.2.2.2.2.2.2.2.1
noncomputable abbrev ap10{A0 A1 A2 A3 A4 A5 A6 A7 A8 A9 D R:Type}(f:A0→A1→A2→A3→A4→A5→A6→A7→A8→A9→R)(h:A0×A1×A2×A3×A4×A5×A6×A7×A8×A9×D):R:=f h.1 h.2.1 h.2.2.1 h.2.2.2.1 h.2.2.2.2.1 h.2.2.2.2.2.1 h.2.2.2.2.2.2.1 h.2.2.2.2.2.2.2.1 h.2.2.2.2.2.2.2.2.1 h.2.2.2.2.2.2.2.2.2.1
noncomputable abbrev ap11{A0 A1 A2 A3 A4 A5 A6 A7 A8 A9 A10 D R:Type}(f:A0→A1→A2→A3→A4→A5→A6→A7→A8→A9→A10→R)(h:A0×A1×A2×A3×A4×A5×A6×A7×A8×A9×A10×D):R:=f h.1 h.2.1 h.2.2.1 h.2.2.2.1 h.2.2.2.2.1 h.2.2.2.2.2.1 h.2.2.2.2.2.2.1 h.2.2.2.2.2.2.2.1 h.2.2.2.2.2.2.2.2.1 h.2.2.2.2.2.2.2.2.2.1 h.2.2.2.2.2.2.2.2.2.2.1
noncomputable abbrev ap14{A0 A1 A2 A3 A4 A5 A6 A7 A8 A9 A10 A11 A12 A13 D R:Type}(f:A0→A1→A2→A3→A4→A5→A6→A7→A8→A9→A10→A11→A12→A13→R)(h:A0×A1×A2×A3×A4×A5×A6×A7×A8×A9×A10×A11×A12×A13×D):R:=f h.1 h.2.1 h.2.2.1 h.2.2.2.1 h.2.2.2.2.1 h.2.2.2.2.2.1 h.2.2.2.2.2.2.1 h.2.2.2.2.2.2.2.1 h.2.2.2.2.2.2.2.2.1 h.2.2.2.2.2.2.2.2.2.1 h.2.2.2.2.2.2.2.2.2.2.1 h.2.2.2.2.2.2.2.2.2.2.2.1 h.2.2.2.2.2.2.2.2.2.2.2.2.1 h.2.2.2.2.2.2.2.2.2.2.2.2.2.1
noncomputable abbrev ap16{A0 A1 A2 A3 A4 A5 A6 A7 A8 A9 A10 A11 A12 A13 A14 A15 D R:Type}(f:A0→A1→A2→A3→A4→A5→A6→A7→A8→A9→A10→A11→A12→A13→A14→A15→R)(h:A0×A1×A2×A3×A4×A5×A6×A7×A8×A9×A10×A11×A12×A13×A14×A15×D):R:=f h.1 h.2.1 h.2.2.1 h.2.2.2.1 h.2.2.2.2.1 h.2.2.2.2.2.1 h.2.2.2.2.2.2.1 h.2.2.2.2.2.2.2.1 h.2.2.2.2.2.2.2.2.1 h.2.2.2.2.2.2.2.2.2.1 h.2.2.2.2.2.2.2.2.2.2.1 h.2.2.2.2.2.2.2.2.2.2.2.1 h.2.2.2.2.2.2.2.2.2.2.2.2.1 h.2.2.2.2.2.2.2.2.2.2.2.2.2.1 h.2.2.2.2.2.2.2.2.2.2.2.2.2.2.1 h.2.2.2.2.2.2.2.2.2.2.2.2.2.2.2.1
noncomputable abbrev ap18{A0 A1 A2 A3 A4 A5 A6 A7 A8 A9 A10 A11 A12 A13 A14 A15 A16 A17 D R:Type}(f:A0→A1→A2→A3→A4→A5→A6→A7→A8→A9→A10→A11→A12→A13→A14→A15→A16→A17→R)(h:A0×A1×A2×A3×A4×A5×A6×A7×A8×A9×A10×A11×A12×A13×A14×A15×A16×A17×D):R:=f h.1 h.2.1 h.2.2.1 h.2.2.2.1 h.2.2.2.2.1 h.2.2.2.2.2.1 h.2.2.2.2.2.2.1 h.2.2.2.2.2.2.2.1 h.2.2.2.2.2.2.2.2.1 h.2.2.2.2.2.2.2.2.2.1 h.2.2.2.2.2.2.2.2.2.2.1 h.2.2.2.2.2.2.2.2.2.2.2.1 h.2.2.2.2.2.2.2.2.2.2.2.2.1 h.2.2.2.2.2.2.2.2.2.2.2.2.2.1 h.2.2.2.2.2.2.2.2.2.2.2.2.2.2.1 h.2.2.2.2.2.2.2.2.2.2.2.2.2.2.2.1 h.2.2.2.2.2.2.2.2.2.2.2.2.2.2.2.2.1 h.2.2.2.2.2.2.2.2.2.2.2.2.2.2.2.2.2.1
noncomputable abbrev ap19{A0 A1 A2 A3 A4 A5 A6 A7 A8 A9 A10 A11 A12 A13 A14 A15 A16 A17 A18 D R:Type}(f:A0→A1→A2→A3→A4→A5→A6→A7→A8→A9→A10→A11→A12→A13→A14→A15→A16→A17→A18→R)(h:A0×A1×A2×A3×A4×A5×A6×A7×A8×A9×A10×A11×A12×A13×A14×A15×A16×A17×A18×D):R:=f h.1 h.2.1 h.2.2.1 h.2.2.2.1 h.2.2.2.2.1 h.2.2.2.2.2.1 h.2.2.2.2.2.2.1 h.2.2.2.2.2.2.2.1 h.2.2.2.2.2.2.2.2.1 h.2.2.2.2.2.2.2.2.2.1 h.2.2.2.2.2.2.2.2.2.2.1 h.2.2.2.2.2.2.2.2.2.2.2.1 h.2.2.2.2.2.2.2.2.2.2.2.2.1 h.2.2.2.2.2.2.2.2.2.2.2.2.2.1 h.2.2.2.2.2.2.2.2.2.2.2.2.2.2.1 h.2.2.2.2.2.2.2.2.2.2.2.2.2.2.2.1 h.2.2.2.2.2.2.2.2.2.2.2.2.2.2.2.2.1 h.2.2.2.2.2.2.2.2.2.2.2.2.2.2.2.2.2.1 h.2.2.2.2.2.2.2.2.2.2.2.2.2.2.2.2.2.2.1
noncomputable abbrev ap20{A0 A1 A2 A3 A4 A5 A6 A7 A8 A9 A10 A11 A12 A13 A14 A15 A16 A17 A18 A19 D R:Type}(f:A0→A1→A2→A3→A4→A5→A6→A7→A8→A9→A10→A11→A12→A13→A14→A15→A16→A17→A18→A19→R)(h:A0×A1×A2×A3×A4×A5×A6×A7×A8×A9×A10×A11×A12×A13×A14×A15×A16×A17×A18×A19×D):R:=f h.1 h.2.1 h.2.2.1 h.2.2.2.1 h.2.2.2.2.1 h.2.2.2.2.2.1 h.2.2.2.2.2.2.1 h.2.2.2.2.2.2.2.1 h.2.2.2.2.2.2.2.2.1 h.2.2.2.2.2.2.2.2.2.1 h.2.2.2.2.2.2.2.2.2.2.1 h.2.2.2.2.2.2.2.2.2.2.2.1 h.2.2.2.2.2.2.2.2.2.2.2.2.1 h.2.2.2.2.2.2.2.2.2.2.2.2.2.1 h.2.2.2.2.2.2.2.2.2.2.2.2.2.2.1 h.2.2.2.2.2.2.2.2.2.2.2.2.2.2.2.1 h.2.2.2.2.2.2.2.2.2.2.2.2.2.2.2.2.1 h.2.2.2.2.2.2.2.2.2.2.2.2.2.2.2.2.2.1 h.2.2.2.2.2.2.2.2.2.2.2.2.2.2.2.2.2.2.1 h.2.2.2.2.2.2.2.2.2.2.2.2.2.2.2.2.2.2.2.1
noncomputable abbrev ap21{A0 A1 A2 A3 A4 A5 A6 A7 A8 A9 A10 A11 A12 A13 A14 A15 A16 A17 A18 A19 A20 D R:Type}(f:A0→A1→A2→A3→A4→A5→A6→A7→A8→A9→A10→A11→A12→A13→A14→A15→A16→A17→A18→A19→A20→R)(h:A0×A1×A2×A3×A4×A5×A6×A7×A8×A9×A10×A11×A12×A13×A14×A15×A16×A17×A18×A19×A20×D):R:=f h.1 h.2.1 h.2.2.1 h.2.2.2.1 h.2.2.2.2.1 h.2.2.2.2.2.1 h.2.2.2.2.2.2.1 h.2.2.2.2.2.2.2.1 h.2.2.2.2.2.2.2.2.1 h.2.2.2.2.2.2.2.2.2.1 h.2.2.2.2.2.2.2.2.2.2.1 h.2.2.2.2.2.2.2.2.2.2.2.1 h.2.2.2.2.2.2.2.2.2.2.2.2.1 h.2.2.2.2.2.2.2.2.2.2.2.2.2.1 h.2.2.2.2.2.2.2.2.2.2.2.2.2.2.1 h.2.2.2.2.2.2.2.2.2.2.2.2.2.2.2.1 h.2.2.2.2.2.2.2.2.2.2.2.2.2.2.2.2.1 h.2.2.2.2.2.2.2.2.2.2.2.2.2.2.2.2.2.1 h.2.2.2.2.2.2.2.2.2.2.2.2.2.2.2.2.2.2.1 h.2.2.2.2.2.2.2.2.2.2.2.2.2.2.2.2.2.2.2.1 h.2.2.2.2.2.2.2.2.2.2.2.2.2.2.2.2.2.2.2.2.1
noncomputable abbrev ap23{A0 A1 A2 A3 A4 A5 A6 A7 A8 A9 A10 A11 A12 A13 A14 A15 A16 A17 A18 A19 A20 A21 A22 D R:Type}(f:A0→A1→A2→A3→A4→A5→A6→A7→A8→A9→A10→A11→A12→A13→A14→A15→A16→A17→A18→A19→A20→A21→A22→R)(h:A0×A1×A2×A3×A4×A5×A6×A7×A8×A9×A10×A11×A12×A13×A14×A15×A16×A17×A18×A19×A20×A21×A22×D):R:=f h.1 h.2.1 h.2.2.1 h.2.2.2.1 h.2.2.2.2.1 h.2.2.2.2.2.1 h.2.2.2.2.2.2.1 h.2.2.2.2.2.2.2.1 h.2.2.2.2.2.2.2.2.1 h.2.2.2.2.2.2.2.2.2.1 h.2.2.2.2.2.2.2.2.2.2.1 h.2.2.2.2.2.2.2.2.2.2.2.1 h.2.2.2.2.2.2.2.2.2.2.2.2.1 h.2.2.2.2.2.2.2.2.2.2.2.2.2.1 h.2.2.2.2.2.2.2.2.2.2.2.2.2.2.1 h.2.2.2.2.2.2.2.2.2.2.2.2.2.2.2.1 h.2.2.2.2.2.2.2.2.2.2.2.2.2.2.2.2.1 h.2.2.2.2.2.2.2.2.2.2.2.2.2.2.2.2.2.1 h.2.2.2.2.2.2.2.2.2.2.2.2.2.2.2.2.2.2.1 h.2.2.2.2.2.2.2.2.2.2.2.2.2.2.2.2.2.2.2.1 h.2.2.2.2.2.2.2.2.2.2.2.2.2.2.2.2.2.2.2.2.1 h.2.2.2.2.2.2.2.2.2.2.2.2.2.2.2.2.2.2.2.2.2.1 h.2.2.2.2.2.2.2.2.2.2.2.2.2.2.2.2.2.2.2.2.2.2.1
noncomputable abbrev ap26{A0 A1 A2 A3 A4 A5 A6 A7 A8 A9 A10 A11 A12 A13 A14 A15 A16 A17 A18 A19 A20 A21 A22 A23 A24 A25 D R:Type}(f:A0→A1→A2→A3→A4→A5→A6→A7→A8→A9→A10→A11→A12→A13→A14→A15→A16→A17→A18→A19→A20→A21→A22→A23→A24→A25→R)(h:A0×A1×A2×A3×A4×A5×A6×A7×A8×A9×A10×A11×A12×A13×A14×A15×A16×A17×A18×A19×A20×A21×A22×A23×A24×A25×D):R:=f h.1 h.2.1 h.2.2.1 h.2.2.2.1 h.2.2.2.2.1 h.2.2.2.2.2.1 h.2.2.2.2.2.2.1 h.2.2.2.2.2.2.2.1 h.2.2.2.2.2.2.2.2.1 h.2.2.2.2.2.2.2.2.2.1 h.2.2.2.2.2.2.2.2.2.2.1 h.2.2.2.2.2.2.2.2.2.2.2.1 h.2.2.2.2.2.2.2.2.2.2.2.2.1 h.2.2.2.2.2.2.2.2.2.2.2.2.2.1 h.2.2.2.2.2.2.2.2.2.2.2.2.2.2.1 h.2.2.2.2.2.2.2.2.2.2.2.2.2.2.2.1 h.2.2.2.2.2.2.2.2.2.2.2.2.2.2.2.2.1 h.2.2.2.2.2.2.2.2.2.2.2.2.2.2.2.2.2.1 h.2.2.2.2.2.2.2.2.2.2.2.2.2.2.2.2.2.2.1 h.2.2.2.2.2.2.2.2.2.2.2.2.2.2.2.2.2.2.2.1 h.2.2.2.2.2.2.2.2.2.2.2.2.2.2.2.2.2.2.2.2.1 h.2.2.2.2.2.2.2.2.2.2.2.2.2.2.2.2.2.2.2.2.2.1 h.2.2.2.2.2.2.2.2.2.2.2.2.2.2.2.2.2.2.2.2.2.2.1 h.2.2.2.2.2.2.2.2.2.2.2.2.2.2.2.2.2.2.2.2.2.2.2.1 h.2.2.2.2.2.2.2.2.2.2.2.2.2.2.2.2.2.2.2.2.2.2.2.2.1 h.2.2.2.2.2.2.2.2.2.2.2.2.2.2.2.2.2.2.2.2.2.2.2.2.2.1
theorem ls{n:Nat}(C:X.Cfg)(hT:Ej E0 TT libB n C.TB){c:Ctr}(hE:C.E=E0:=by rfl)(h1:(TT c.f).isSome=true:=by kernel_rfl)(hg:∀h,X.runT dJ C () ((TT c.f).getD Nf) c.outs (iL c.ins _ h).1 (re c.pts [] (iL c.ins _ h).2).1=c.g h:=by intro h;kernel_rfl):Lk (n+1) c:=MD (n:=n) (C:=C) hE hT (MP h1) hg
abbrev Uaa(t:Nat):Nat×Sh:=sP t I64
abbrev Xaa(t:Nat):Nat×Sh:=sP t .bool
abbrev Zaa(t r:Nat):Nat×Sh:=(t,.pk ⟨r,0,[]⟩ [0,0])
abbrev uaa(t:CT):CT:=.row true t
abbrev yaa(t:CT):CT:=.row false t
abbrev zaa(t:Nat):Nat×Sh:=pP t (2*t+2)
abbrev uab:List Sh:=uL [fc,RI,(yaa RW)]
abbrev yab:List Sh:=uL [RI,CW]
abbrev zab:List Sh:=uL [RI,I64]
abbrev Uab:List Sh:=uL [CB,CW]
abbrev Xab:List Sh:=uL [N1,N1]
abbrev Zab:List Sh:=uL [N1,CW,N1,N1,N1]
abbrev uac:List Sh:=uL [.bool]
abbrev yac:List Sh:=uL [RI,CW,eZ,fr,fN]
abbrev zac:List Sh:=uL [I64,I64]
abbrev Uac:List Sh:=uL [RI,CW,(uaa KCe),jm,ov]
abbrev Xac:List Sh:=uL [fc,RI,(yaa RW),RI,CW,eZ,fr,fN,RW,RW,(yaa RW),(yaa d9),gu,iG,RI,(yaa RI),(uaa qC),(uaa I64)]
abbrev Zac:List Sh:=uL [I64,I64,I64,I64,I64,I64,d9,d9]
abbrev uad:List Sh:=uL [(yaa d9),gu]
abbrev yad:List Sh:=uL [I64,I64,I64,I64,I64]
abbrev zad:List Sh:=uL [eZ,fr]
abbrev Uad:List Sh:=uL [(yaa d9),(yaa pX)]
abbrev Xad:List Sh:=uL [I64]
abbrev Zad:List Sh:=uL [N1,N1,N1]
abbrev uae:List Sh:=uL [CB,CW,I64,I64,N1,I64,.bool]
abbrev yae:List Sh:=uL [(uaa I64)]
abbrev zae:List Sh:=uL [(uaa I64),(uaa (uaa I64))]
abbrev Uae:List Sh:=uL [I64,eZ,I64,I64,I64,I64,I64,CW]
abbrev Xae:List Sh:=uL [(uaa (uaa KCn)),(uaa KOp)]
abbrev Zae:List Sh:=uL [fc,RI,(yaa RW),RI,CW,eZ,fr,fN,RW,RW,(yaa RW),(yaa d9),gu,iG,RI,(yaa RI),Eg,RI]
abbrev uaf:List Sh:=uL [RI,(yaa RI)]
abbrev yaf:List Sh:=uL [(uaa KCe),jm]
abbrev zaf:List Sh:=uL [CB,CW,I64,I64,d9,I64,.bool]
abbrev Uaf:List Sh:=uL [(uaa (uaa KCn))]
abbrev Xaf:List Sh:=uL [(uaa (uaa KCn)),(uaa Ei)]
abbrev Zaf:List Sh:=uL [RW,RW,(yaa RW),(yaa d9),gu,iG]
abbrev uag:List Sh:=uL [I64,I64,I64,I64,I64,I64,N1,N1]
abbrev yag:List Sh:=uL [(uaa KCn)]
abbrev zag:List Sh:=uL [.bool,.bool,.bool,.bool]
abbrev Uag:List Sh:=uL [N1,N1,N1,N1,CW,N1,N1,N1,N1,N1,N1,N1,N1,N1,N1,N1,N1,N1]
abbrev Xag:List Sh:=uL [RI,CW,(uaa KCe),jm,(uaa JS)]
abbrev Zag:List Sh:=uL [CB,CW,I64,I64]
abbrev uah:List Sh:=uL [I64,(uaa KCe),I64,I64,I64,I64,I64,CW]
abbrev yah:List Sh:=uL [N1,N1,N1,N1,N1,N1]
abbrev zah:List Sh:=uL [(uaa d9)]
abbrev Uah:List Sh:=uL [I64,I64,.bool]
abbrev Xah:List Sh:=uL [(uaa KIn),RI,(uaa (uaa CW))]
abbrev Zah:List Sh:=uL [fc,RI,(uaa (uaa CW))]
abbrev uai:List Sh:=uL [(uaa (uaa CW))]
abbrev yai:List Sh:=uL [CB,CW,I64]
abbrev zai:List Sh:=uL [RI,CW,(uaa KCe),jm,N1]
abbrev Uai:List Sh:=uL [(uaa De)]
abbrev Xai:List Sh:=uL [(uaa CW),(uaa CW),(uaa (uaa CW)),(uaa (uaa KCn)),(uaa KOp),(uaa De)]
abbrev Zai:List Sh:=uL [I64,I64,I64,I64,I64,I64,(uaa KCn),N1]
abbrev uaj:List Sh:=uL [I64,I64,I64,I64,I64,I64,(uaa KCn),(uaa KCn)]
abbrev yaj:List Sh:=uL [I64,I64,I64,I64,I64,I64,CW,d9]
abbrev zaj:List Sh:=uL [(uaa (uaa KCn)),(uaa KOp),I64]
abbrev Uaj:List Sh:=uL [RI,CW,eZ,fr,ov]
abbrev Xaj:List Sh:=uL [RI,CW,(uaa KCe),jm,ov,.bool]
abbrev Zaj:List Sh:=uL [(uaa (uaa KCn)),(uaa KOp),.bool]
abbrev uak:List Sh:=uL [CB,CW,I64,I64,(uaa KCn),I64,.bool]
abbrev yak:List Sh:=uL [RI,CW,eZ,fr,fN,.bool]
abbrev zak:List Sh:=uL [fc,RI,(yaa RW),RI,CW,eZ,fr,fN,RW,RW,(yaa RW),(yaa d9),gu,iG,RI,(yaa RI),(uaa qC)]
abbrev Uak:List Sh:=uL [I64,I64,I64,I64,I64,I64,CW,(uaa KCn)]
def i9(a0:Int)(a1:Int):Option (Int×Unit):=
bif(a1 != 0)then let x0:Int:=(Int.tmod a0 a1);
(bif(decide (x0<0))then(let x1:Int:=(w64 (x0+a1));
some (x1,()))else
some (x0,()):Option (Int×Unit)).bind λ(x1,_)=>
some (x1,())else none
def CE:X.Cfg:=⟨E0,[],[],[⟨2,0,qE,[(.normal,qS [Uaa 5] [])]⟩]⟩
def qA:Ctr:=⟨35,0,zac,[],[⟨Xad,[.one],[]⟩],ap2 i9⟩
theorem uO:Lk 1 qA:=ls CE aN
def xL(a0:Int)(a1:Int):Option (Int×Unit):=
(i9 a0 a1).bind λ(x0,_)=>
some (x0,())
def Jr:X.Cfg:=⟨E0,[qA],[],[]⟩
def Ea:Ctr:=⟨13,1,zac,[],[⟨Xad,[.one],[]⟩],ap2 xL⟩
theorem Jh:Lk 2 Ea:=ls Jr (aC uO aN)
def dK(a0:Int)(a1:List (Int))(a2:Int):Option (T0e):=
let x0:=dM a1.length;
bif(decide (a2>=x0))then(some (0,a1,a2,()))else
let x1:=w64 (a2+1);
let x2:=w64 (x1-1);
(d7 x2).bind λx3=>
(dI a1 x3).bind λx4=>
(xL x4 a0).bind λ(x5,_)=>
some (x5,a1,x1,())
def CI:X.Cfg:=⟨E0,[Ea],[],[]⟩
def fv:Ctr:=⟨18,2,[.ptr ⟨2,0,[]⟩ [0],shU I64],[(2,zab)],[⟨Xad,[.one],[(2,zab)]⟩],ap3 dK⟩
theorem fG:Lk 3 fv:=ls CI (aC Jh aN)
def oK:T0r->Option (T0r⊕(Int×Bool×T0i)):=λ(v0,v1,v2,v3,_)=>
bif(decide (v0>0))then(let x0:List (Int):=[6,12,32];
(dK 3 v1 v2).bind λ(x1,x2,x3,_)=>
(d7 x1).bind λx4=>
(dI x0 x4).bind λx5=>
(dI x0 x4).bind λx6=>
(dK x6 x2 x3).bind λ(x7,x8,x9,_)=>
let ac:=w64 (1+x7);
bif(dY 8 v3.length (List.length [ac]))then let ae:List (Int):=(List.append v3 [ac]);
let af:=w64 (v0-1);
some (.inl (af,x8,x9,ae,()))else none)else
some (.inr (v0,false,v1,v2,v3,()))
def mD(a0:List (Int))(a1:Int):Option (LI×T06):=
(dK 9 a0 a1).bind λ(x0,x1,x2,_)=>
let x3:=w64 (4+x0);
(dK 4 x1 x2).bind λ(x4,x5,x6,_)=>
(dU oK NN (x4,x5,x6,[x3],())).bind λ(x7,x8,x9,ac,ae,_)=>
some (ae,x9,ac,())
def Bi:X.Cfg:=⟨E0,[fv],[],[(lx 4 0 [zaa 0,Zaa 3 9,Uaa 4] [(2,zab),(9,yae)] 12)]⟩
def tA:Ctr:=⟨94,3,[.ptr ⟨2,0,[]⟩ [0]],[(2,zab)],[⟨yae,[.one],[(2,zab)]⟩],ap2 mD⟩
theorem AH:Lk 4 tA:=ls Bi (aC fG aN)
def ie(a0:List (Int))(a1:Int):Option (T0e):=
(dK 5 a0 a1).bind λ(x0,x1)=>
(bif(x0==0)then(some (x0,true,x1))else
bif(x0==1)then(some (x0,true,x1))else
some (x0,(x0==2),x1):Option (T0m)).bind λ(x3,x4,x5,x6,_)=>
bif x4 then((dK 8 x5 x6).bind λ(x7,x8,x9,_)=>
let ac:=wk .u16 x7;
some (ac,x8,x9,()))else
bif(x3==3)then((dK 3 x5 x6).bind λ(x7,x8,x9,_)=>
let ac:=w64 (65535-x7);
let ae:=wk .u16 ac;
some (ae,x8,x9,()))else
(dK 65536 x5 x6).bind λ(x7,x8,x9,_)=>
let ac:=wk .u16 x7;
some (ac,x8,x9,())
def CH:X.Cfg:=⟨E0,[fv],[],[⟨3,0,qE,[(.normal,qS [zaa 0,Uaa 4,Xaa 5] [(2,zab)])]⟩]⟩
def mf:Ctr:=⟨56,4,[.ptr ⟨2,0,[]⟩ [0]],[(2,zab)],[⟨uL [CW],[.one],[(2,zab)]⟩],ap2 ie⟩
theorem nQ:Lk 4 mf:=ls CH (aC fG aN)
def oJ:T0r->Option (T0r⊕(Int×Bool×T0i)):=λ(v0,v1,v2,v3,_)=>
bif(decide (v0>0))then((ie v1 v2).bind λ(x0,x1,x2,_)=>
bif(dY 2 v3.length (List.length [x0]))then let x3:List (Int):=(List.append v3 [x0]);
let x4:=w64 (v0-1);
some (.inl (x4,x1,x2,x3,()))else none)else
some (.inr (v0,false,v1,v2,v3,()))
def fE(a0:Int)(a1:List (Int))(a2:Int):Option (LI×T06):=
let x0:=w64 (a0+1);
(dK x0 a1 a2).bind λ(x1,x2,x3,_)=>
(dU oJ NN (x1,x2,x3,[],())).bind λ(x4,x5,x6,x7,x8,_)=>
some (x8,x6,x7,())
def Bh:X.Cfg:=⟨E0,[fv,mf],[],[(lx 4 0 [zaa 0,Zaa 5 13,Uaa 6] [(2,zab),(13,uL [(uaa CW)])] 12)]⟩
def pu:Ctr:=⟨95,5,[.ptr ⟨2,0,[]⟩ [0],shU I64],[(2,zab)],[⟨uL [(uaa CW)],[.one],[(2,zab)]⟩],ap3 fE⟩
theorem sS:Lk 5 pu:=ls Bh (aC fG (aC nQ aN))
def ic(a0:Int)(a1:Int):Option (T0D):=
some (1,a0,0,0,a1,())
def Lf:X.Cfg:=⟨E0,[],[],[]⟩
def C8:Ctr:=⟨97,6,zac,[],[⟨yad,[.agg 5],[]⟩],ap2 ic⟩
theorem Ho:Lk 1 C8:=ls Lf aN
def gF(a0:Int):Option (T0D):=
some (23,0,0,0,a0,())
def Jp:X.Cfg:=⟨E0,[],[],[]⟩
def zI:Ctr:=⟨98,7,Xad,[],[⟨yad,[.agg 5],[]⟩],ap1 gF⟩
theorem DK:Lk 1 zI:=ls Jp aN
def lu(a0:Int)(a1:Int):Option (T0D):=
some (2,a0,a1,0,0,())
def Jq:X.Cfg:=⟨E0,[],[],[]⟩
def D9:Ctr:=⟨136,8,zac,[],[⟨yad,[.agg 5],[]⟩],ap2 lu⟩
theorem Jg:Lk 1 D9:=ls Jq aN
def jg(a0:Int):Option (T0k):=
(bif(a0==1)then(some (a0,true,false,false,false,false,()))else
bif(a0==15)then(some (a0,true,false,false,false,false,()))else
bif(a0==19)then(some (a0,true,false,false,false,false,()))else
bif(a0==20)then(some (a0,true,false,false,false,false,()))else
some (a0,(a0==21),false,false,false,false,()):Option (Int×Bool×T0k)).bind λ(x0,x1,_)=>
bif x1 then(some (true,false,false,true,()))else
bif(x0==2)then(some (true,true,false,false,()))else
bif(x0==16)then(some (true,true,false,true,()))else
bif(x0==17)then(some (true,true,false,true,()))else
bif(x0==18)then(some (false,false,false,true,()))else
bif(x0==23)then(some (false,false,false,true,()))else
bif(x0==22)then(some (true,false,false,false,()))else
bif(x0==0)then(some (false,false,false,false,()))else
bif(x0==24)then(some (false,false,false,false,()))else
some (true,true,true,false,())
def Ba:X.Cfg:=⟨E0,[],[],[⟨3,0,qE,[(.normal,qS [zaa 2,Uaa 3,Xaa 4] [(6,zag)])]⟩]⟩
def pn:Ctr:=⟨155,9,Xad,[],[⟨zag,[.agg 4],[]⟩],ap1 jg⟩
theorem sQ:Lk 1 pn:=ls Ba aN
def gw(a0:Int):Option (Bool×Unit):=
bif(a0==18)then(some (true,()))else
bif(a0==19)then(some (true,()))else
bif(a0==20)then(some (true,()))else
some ((a0==21),())
def Bb:X.Cfg:=⟨E0,[],[],[]⟩
def jk:Ctr:=⟨99,10,Xad,[],[⟨uac,[.one],[]⟩],ap1 gw⟩
theorem kR:Lk 1 jk:=ls Bb aN
def mE(a0:Int)(a1:Int)(a2:List (Int))(a3:Int):Option (Int×Int×Int×T0p):=
(dK 25 a2 a3).bind λ(x0,x1,x2,_)=>
(jg x0).bind λ(x3,x4)=>
(bif x3 then((dK 8 x1 x2).bind λ(x7,x8,x9,_)=>
some (a0,a1,x8,x9,0,0,0,0,0,x0,x7,0,0,0,x3,x4))else
some (a0,a1,x1,x2,0,0,0,0,0,x0,0,0,0,0,x3,x4):Option (T2v)).bind λ(x7,x8,x9,ac,ae,af,ah,ai,aj,ak,am,an,ap,aq,av,ax,ay)=>
(bif ax then((dK 8 x9 ac).bind λ(aA,aB,aD,_)=>
some (x7,x8,aB,aD,ae,af,ah,ai,aj,ak,am,aA,ap,aq,av,ax,ay))else
some (x7,x8,x9,ac,ae,af,ah,ai,aj,ak,am,an,ap,aq,av,ax,ay):Option (T2v)).bind λ(aA,aB,aD,aE,aF,aG,aH,aI,aJ,aK,aL,aM,aO,aP,aQ,aR,aS,aT,_)=>
(bif aS then((dK 8 aD aE).bind λ(aU,aV,aW,_)=>
some (aA,aB,aV,aW,aF,aG,aH,aI,aJ,aK,aL,aM,aU,aP,aQ,aR,aS,aT,()))else
some (aA,aB,aD,aE,aF,aG,aH,aI,aJ,aK,aL,aM,aO,aP,aQ,aR,aS,aT,()):Option (T2v)).bind λ(aU,aV,aW,aY,aZ,ba,bc,bd,be,bf,bg,bh,bi,bj,bk,bl,bm,bn,_)=>
((gw bf).bind λ(bo,_)=>
bif bo then((dK aV aW aY).bind λ(bp,bq,bt,_)=>
some (bq,bt,aZ,ba,bc,bd,be,bf,bg,bh,bi,bp,()))else
bif(bf==15)then((dK aU aW aY).bind λ(bp,bq,bt,_)=>
some (bq,bt,aZ,ba,bc,bd,be,bf,bg,bh,bi,bp,()))else
bif(bf==23)then((dK 16 aW aY).bind λ(bp,bq,bt,_)=>
some (bq,bt,aZ,ba,bc,bd,be,bf,bg,bh,bi,bp,()))else
bif bn then((ie aW aY).bind λ(bp,bq,bt,_)=>
let bv:=wk .i64 bp;
some (bq,bt,aZ,ba,bc,bd,be,bf,bg,bh,bi,bv,()))else
some (aW,aY,aZ,ba,bc,bd,be,bf,bg,bh,bi,bj,()):Option (LI×Int×Int×T1y)).bind λ(bo,bp,bq,bt,bv,bx,bA,bB,bC,bD,bE,bF,_)=>
some (bB,bC,bD,bE,bF,bo,bp,())
def Bj:X.Cfg:=⟨E0,[fv,pn,jk,mf],[],[⟨3,0,qE,[(.normal,qS [zaa 0,Uaa 1,Uaa 2,zaa 6,zaa 7,zaa 8] [(2,zab),(14,yad),(16,yad),(18,zag)])]⟩,⟨5,1,qE,[(.normal,qS [zaa 0,Uaa 1,Uaa 2,zaa 6,zaa 7,zaa 8] [(2,zab),(14,yad),(16,yad),(18,zag)])]⟩,⟨7,2,qE,[(.normal,qS [zaa 0,Uaa 1,Uaa 2,zaa 6,zaa 7,zaa 8] [(2,zab),(14,yad),(16,yad),(18,zag)])]⟩,⟨9,3,qE,[(.normal,qS [zaa 0,zaa 6,zaa 7] [(2,zab),(14,yad),(16,yad)])]⟩]⟩
def tB:Ctr:=⟨137,11,[.ptr ⟨2,0,[]⟩ [0],shU I64,shU I64],[(2,zab)],[⟨yad,[.agg 5],[(2,zab)]⟩],ap4 mE⟩
theorem AI:Lk 5 tB:=ls Bj (aC fG (aC sQ (aC kR (aC nQ aN))))
def nG(a0:List (Int))(a1:Int)(a2:Int)(a3:List (Int))(a4:Int):Option (LDIn×T06):=
let x0:=dM a0.length;
(dK x0 a3 a4).bind λ(x1,x2,x3,_)=>
(d7 x1).bind λx4=>
(dI a0 x4).bind λx5=>
let x6:=w64 (x5+1);
let x7:=mmR false 5 x6;
(dK x7 x2 x3).bind λ(x8,x9,ac,_)=>
(ic 2 x8).bind λ(ae,af,ah,ai,aj,_)=>
let ak:LDIn:=[(15,(1,(0,(0,x1)))),(ae,(af,(ah,(ai,aj))))];
(dK 20 x9 ac).bind λ(am,an,ap,_)=>
bif(am==0)then((dK 3 an ap).bind λ(aq,av,ax,_)=>
let ay:=w64 (3+aq);
(ie av ax).bind λ(az,aA,aB,_)=>
let aD:=wk .i64 az;
(ic ay aD).bind λ(aE,aF,aG,aH,aI,_)=>
let aJ:LDIn:=[(aE,(aF,(aG,(aH,aI))))];
some (aJ,aA,aB,()))else
bif(am==1)then(let aq:List (Int):=[3,4,5,10,13,14,11,9];
(dK 8 an ap).bind λ(av,ax,ay,_)=>
(d7 av).bind λaz=>
(dI aq az).bind λaA=>
(dI aq az).bind λaB=>
(dK 3 ax ay).bind λ(aD,aE,aF,_)=>
let aG:=w64 (3+aD);
(dK 3 aE aF).bind λ(aH,aI,aJ,_)=>
let aK:=w64 (3+aH);
(dK 3 aI aJ).bind λ(aL,aM,aO,_)=>
let aP:=w64 (3+aL);
let aQ:LDIn:=[(aB,(aG,(aK,(aP,0))))];
some (aQ,aM,aO,()))else
bif(am==2)then(let aq:LDIn:=[(15,(6,(0,(0,x1))))];
some (aq,an,ap,()))else
bif(am==3)then((dK 5 an ap).bind λ(aq,av,ax,_)=>
let ay:=w64 (3+aq);
(d7 x1).bind λaz=>
(dI a0 az).bind λaA=>
(dK aA av ax).bind λ(aB,aD,aE,_)=>
let aF:LDIn:=[(15,(6,(0,(0,x1)))),(17,(6,(ay,(0,aB))))];
some (aF,aD,aE,()))else
bif(am==4)then((dK 5 an ap).bind λ(aq,av,ax,_)=>
let ay:=w64 (3+aq);
(d7 x1).bind λaz=>
(dI a0 az).bind λaA=>
(dK aA av ax).bind λ(aB,aD,aE,_)=>
let aF:LDIn:=[(15,(6,(0,(0,x1)))),(17,(6,(ay,(0,aB))))];
some (aF,aD,aE,()))else
bif(am==5)then((dK 4 an ap).bind λ(aq,av,ax,_)=>
let ay:=w64 (3+aq);
(d7 x1).bind λaz=>
(dI a0 az).bind λaA=>
(dK aA av ax).bind λ(aB,aD,aE,_)=>
let aF:LDIn:=[(15,(6,(0,(0,x1)))),(16,(ay,(6,(0,aB))))];
some (aF,aD,aE,()))else
bif(am==6)then((dK 4 an ap).bind λ(aq,av,ax,_)=>
let ay:=w64 (3+aq);
(d7 x1).bind λaz=>
(dI a0 az).bind λaA=>
(dK aA av ax).bind λ(aB,aD,aE,_)=>
let aF:LDIn:=[(15,(6,(0,(0,x1)))),(16,(ay,(6,(0,aB))))];
some (aF,aD,aE,()))else
bif(am==7)then((dK 3 an ap).bind λ(aq,av,ax,_)=>
(ic 0 aq).bind λ(ay,az,aA,aB,aD,_)=>
let aE:LDIn:=[(ay,(az,(aA,(aB,aD))))];
bif(dY 40 aE.length ak.length)then let aF:LDIn:=(List.append aE ak);
(gF 13).bind λ(aG,aH,aI,aJ,aK,_)=>
let aL:LDIn:=[(aG,(aH,(aI,(aJ,aK))))];
bif(dY 40 aF.length aL.length)then let aM:LDIn:=(List.append aF aL);
some (aM,av,ax,())else none else none)else
bif(am==8)then((dK 3 an ap).bind λ(aq,av,ax,_)=>
(ic 0 aq).bind λ(ay,az,aA,aB,aD,_)=>
let aE:LDIn:=[(ay,(az,(aA,(aB,aD))))];
bif(dY 40 aE.length ak.length)then let aF:LDIn:=(List.append aE ak);
(gF 13).bind λ(aG,aH,aI,aJ,aK,_)=>
let aL:LDIn:=[(aG,(aH,(aI,(aJ,aK))))];
bif(dY 40 aF.length aL.length)then let aM:LDIn:=(List.append aF aL);
some (aM,av,ax,())else none else none)else
bif(am==9)then((dK 3 an ap).bind λ(aq,av,ax,_)=>
(ic 0 aq).bind λ(ay,az,aA,aB,aD,_)=>
let aE:LDIn:=[(ay,(az,(aA,(aB,aD))))];
bif(dY 40 aE.length ak.length)then let aF:LDIn:=(List.append aE ak);
(gF 14).bind λ(aG,aH,aI,aJ,aK,_)=>
(lu 3 0).bind λ(aL,aM,aO,aP,aQ,_)=>
let aR:LDIn:=[(aG,(aH,(aI,(aJ,aK)))),(aL,(aM,(aO,(aP,aQ))))];
bif(dY 40 aF.length aR.length)then let aS:LDIn:=(List.append aF aR);
some (aS,av,ax,())else none else none)else
bif(am==10)then((dK 3 an ap).bind λ(aq,av,ax,_)=>
(ic 0 aq).bind λ(ay,az,aA,aB,aD,_)=>
(dK 4 av ax).bind λ(aE,aF,aG,_)=>
(ic 1 aE).bind λ(aH,aI,aJ,aK,aL,_)=>
(gF 3).bind λ(aM,aO,aP,aQ,aR,_)=>
(lu 7 0).bind λ(aS,aT,aU,aV,aW,_)=>
let aY:LDIn:=[(ay,(az,(aA,(aB,aD)))),(aH,(aI,(aJ,(aK,aL)))),(aM,(aO,(aP,(aQ,aR)))),(aS,(aT,(aU,(aV,aW))))];
some (aY,aF,aG,()))else
bif(am==11)then((lu 0 7).bind λ(aq,av,ax,ay,az,_)=>
let aA:LDIn:=[(aq,(av,(ax,(ay,az))))];
bif(dY 40 aA.length ak.length)then let aB:LDIn:=(List.append aA ak);
let aD:List (Int):=[1,2];
(dK 2 an ap).bind λ(aE,aF,aG,_)=>
(d7 aE).bind λaH=>
(dI aD aH).bind λaI=>
(dI aD aH).bind λaJ=>
(gF aJ).bind λ(aK,aL,aM,aO,aP,_)=>
let aQ:LDIn:=[(aK,(aL,(aM,(aO,aP))))];
bif(dY 40 aB.length aQ.length)then let aR:LDIn:=(List.append aB aQ);
some (aR,aF,aG,())else none else none)else
bif(am==12)then((lu 0 7).bind λ(aq,av,ax,ay,az,_)=>
(gF 4).bind λ(aA,aB,aD,aE,aF,_)=>
let aG:LDIn:=[(aq,(av,(ax,(ay,az)))),(aA,(aB,(aD,(aE,aF))))];
(lu 0 7).bind λ(aH,aI,aJ,aK,aL,_)=>
(dK 4 an ap).bind λ(aM,aO,aP,_)=>
(ic 1 aM).bind λ(aQ,aR,aS,aT,aU,_)=>
(gF 5).bind λ(aV,aW,aY,aZ,ba,_)=>
let bc:LDIn:=[(aH,(aI,(aJ,(aK,aL)))),(aQ,(aR,(aS,(aT,aU)))),(aV,(aW,(aY,(aZ,ba))))];
let bd:List LDIn:=[aG,bc];
(dK 2 aO aP).bind λ(be,bf)=>
(d7 be).bind λbh=>
(dI bd bh).bind λbi=>
(dI bd bh).bind λbj=>
(dI bd bh).bind λbk=>
some (bk,bf))else
bif(am==13)then(let aq:List (Int):=[6,7,15];
(dK 3 an ap).bind λ(av,ax,ay,_)=>
(d7 av).bind λaz=>
(dI aq az).bind λaA=>
(dI aq az).bind λaB=>
(gF aB).bind λ(aD,aE,aF,aG,aH,_)=>
(dK 3 ax ay).bind λ(aI,aJ,aK,_)=>
let aL:=w64 (3+aI);
(lu aL 0).bind λ(aM,aO,aP,aQ,aR,_)=>
let aS:LDIn:=[(aD,(aE,(aF,(aG,aH)))),(aM,(aO,(aP,(aQ,aR))))];
some (aS,aJ,aK,()))else
bif(am==14)then((dK 3 an ap).bind λ(aq,av,ax,_)=>
(ic 0 aq).bind λ(ay,az,aA,aB,aD,_)=>
let aE:List (Int):=[8,9];
(dK 2 av ax).bind λ(aF,aG,aH,_)=>
(d7 aF).bind λaI=>
(dI aE aI).bind λaJ=>
(dI aE aI).bind λaK=>
(gF aK).bind λ(aL,aM,aO,aP,aQ,_)=>
let aR:LDIn:=[(ay,(az,(aA,(aB,aD)))),(aL,(aM,(aO,(aP,aQ))))];
some (aR,aG,aH,()))else
bif(am==15)then((dK 3 an ap).bind λ(aq,av,ax,_)=>
(ic 0 aq).bind λ(ay,az,aA,aB,aD,_)=>
let aE:List (Int):=[8,9];
(dK 2 av ax).bind λ(aF,aG,aH,_)=>
(d7 aF).bind λaI=>
(dI aE aI).bind λaJ=>
(dI aE aI).bind λaK=>
(gF aK).bind λ(aL,aM,aO,aP,aQ,_)=>
let aR:LDIn:=[(ay,(az,(aA,(aB,aD)))),(aL,(aM,(aO,(aP,aQ))))];
some (aR,aG,aH,()))else
bif(am==16)then((dK a1 an ap).bind λ(aq,av,ax,_)=>
(ic 0 aq).bind λ(ay,az,aA,aB,aD,_)=>
(lu 1 3).bind λ(aE,aF,aG,aH,aI,_)=>
(gF 10).bind λ(aJ,aK,aL,aM,aO,_)=>
let aP:LDIn:=[(ay,(az,(aA,(aB,aD)))),(aE,(aF,(aG,(aH,aI)))),(aJ,(aK,(aL,(aM,aO))))];
some (aP,av,ax,()))else
bif(am==17)then(let aq:List (Int):=[a1,5];
(dK 2 an ap).bind λ(av,ax,ay,_)=>
(d7 av).bind λaz=>
(dI aq az).bind λaA=>
(dI aq az).bind λaB=>
(dK aB ax ay).bind λ(aD,aE,aF,_)=>
(ic 0 aD).bind λ(aG,aH,aI,aJ,aK,_)=>
let aL:List (Int):=[12,11];
(dK 2 aE aF).bind λ(aM,aO,aP,_)=>
(d7 aM).bind λaQ=>
(dI aL aQ).bind λaR=>
(dI aL aQ).bind λaS=>
(gF aS).bind λ(aT,aU,aV,aW,aY,_)=>
let aZ:LDIn:=[(aG,(aH,(aI,(aJ,aK)))),(aT,(aU,(aV,(aW,aY))))];
some (aZ,aO,aP,()))else
bif(am==18)then((dK 4 an ap).bind λ(aq,av,ax,_)=>
let ay:=w64 (1+aq);
(ic 5 ay).bind λ(az,aA,aB,aD,aE,_)=>
(ic 4 1).bind λ(aF,aG,aH,aI,aJ,_)=>
let aK:=w64 (a2+2);
let aL:LDIn:=[(az,(aA,(aB,(aD,aE)))),(aF,(aG,(aH,(aI,aJ)))),(4,(5,(5,(4,0)))),(20,(5,(0,(0,aK))))];
some (aL,av,ax,()))else
let aq:=dM a0.length;
(mE aq a1 an ap).bind λ(av,ax,ay,az,aA,aB,aD,_)=>
let aE:LDIn:=[(av,(ax,(ay,(az,aA))))];
some (aE,aB,aD,())
def CG:X.Cfg:=⟨E0,[fv,C8,mf,zI,D9,tB],[(156,(uaa KIn))],[]⟩
def vG:Ctr:=⟨96,12,[.ptr ⟨2,0,[]⟩ [0],shU RI,shU I64,shU I64],[(2,zab)],[⟨uL [fc],[.one],[(2,zab)]⟩],ap5 nG⟩
theorem Co:Lk 6 vG:=ls CG (aC fG (aC Ho (aC nQ (aC DK (aC Jg (aC AI aN))))))
def mX:T1R->Option (T1R⊕(Int×Int×Bool×T1t)):=λ(v0,v1,v2,v3,v4,v5,v6,v7,v8,v9,_)=>
bif(decide (v1<v0))then((d7 v1).bind λx0=>
(dI v8 x0).bind λx1=>
(dI v8 x0).bind λx2=>
(fE x2 v2 v3).bind λ(x3,x4,x5,_)=>
bif(dY 24 v9.length (List.length [x3]))then let x6:List LI:=(List.append v9 [x3]);
let x7:=w64 (v1+1);
some (.inl (v0,x7,x4,x5,v4,v5,v6,v7,v8,x6,()))else none)else
some (.inr (v0,v1,false,v2,v3,v4,v5,v6,v7,v8,v9,()))
def mW:T1C->Option (T1C⊕T1M):=λ(v0,v1,v2,v3,v4,v5,v6,v7,v8,_)=>
bif(decide (v0>0))then((let x0:Int:=(dM v6.length);
let x1:=w64 (x0+1);
let x2:=dM v6.length;
(nG v7 x1 x2 v1 v2).bind λ(x3,x4,x5,_)=>
let x6:=dM v6.length;
let x7:=dM x3.length;
let x8:=w64 (x6+x7);
bif(decide (x8<=62))then(bif(dY 40 v6.length x3.length)then let x9:LDIn:=(List.append v6 x3);
some (v0,x4,x5,v3,v4,v5,x9,v7,v8,())else none)else
some (v0,x4,x5,v3,v4,v5,v6,v7,v8,()):Option (T1C)).bind λ(x0,x1,x2,x3,x4,x5,x6,x7,x8,_)=>
let x9:=w64 (x0-1);
some (.inl (x9,x1,x2,x3,x4,x5,x6,x7,x8,())))else
some (.inr (v0,false,v1,v2,v3,v4,v5,v6,v7,v8,()))
def gk:T1Q->Option (T1Q⊕(Int×T1M)):=λ(v0,v1,v2,v3,v4,v5,v6,v7,v8)=>
bif(decide (v1<v0))then(((d7 v1).bind λx0=>
(dI v7 x0).bind λx1=>
(gw x1.1).bind λ(x2,_)=>
bif x2 then((d7 v1).bind λx3=>
(dI v7 x3).bind λx4=>
let x5:=dM v7.length;
bif(decide (x4.2.2.2.2>=x5))then((d7 v1).bind λx6=>
(dI v7 x6).bind λx7=>
none)else
some (v0,v1,v2,v3,v4,v5,v6,v7,v8))else
some (v0,v1,v2,v3,v4,v5,v6,v7,v8):Option (T1Q)).bind λ(x0,x1,x2,x3,x4,x5,x6,x7,x8)=>
let ac:=w64 (x1+1);
some (.inl (x0,ac,x2,x3,x4,x5,x6,x7,x8)))else
some (.inr (v0,v1,false,v2,v3,v4,v5,v6,v7,v8))
def kz(a0:List (Int))(a1:Int):Option (LDIn×LI×LLI×T06):=
(mD a0 a1).bind λ(x0,x1,x2,_)=>
let x3:=dM x0.length;
(dU mX NN (x3,0,x1,x2,(),(),(),(),x0,[],())).bind λ(x4,x5,x6,x7,x8,x9,ac,ae,af,ah)=>
(dK 12 x7 x8).bind λ(aj,ak,am,_)=>
let an:=w64 (1+aj);
(dU mW NN (an,ak,am,x9,ac,ae,[],ah)).bind λ(ap,aq,av,ax,ay,az,aA,aB,aD)=>
((dK 4 av ax).bind λ(aF,aG,aH,_)=>
bif(aF==0)then(let aI:Int:=(dM aB.length);
let aJ:=w64 (aI+1);
(dK aJ aG aH).bind λ(aK,aL,aM,_)=>
let aO:LDIn:=[(18,(0,(0,(0,aK))))];
bif(dY 40 aB.length aO.length)then let aP:LDIn:=(List.append aB aO);
some (aL,aM,ay,az,aA,aP,aD)else none)else
bif(aF==1)then(let aI:LDIn:=[(24,(0,(0,(0,0))))];
bif(dY 40 aB.length aI.length)then let aJ:LDIn:=(List.append aB aI);
some (aG,aH,ay,az,aA,aJ,aD)else none)else
some (aG,aH,ay,az,aA,aB,aD):Option (T1s)).bind λ(aF,aG,aH,aI,aJ,aK,aL,aM,_)=>
(dK 9 aF aG).bind λ(aO,aP,aQ,_)=>
(ic 0 aO).bind λ(aR,aS,aT,aU,aV,_)=>
(gF 0).bind λ(aW,aY,aZ,ba,bc,_)=>
let bd:LDIn:=[(aR,(aS,(aT,(aU,aV)))),(aW,(aY,(aZ,(ba,bc))))];
bif(dY 40 aK.length bd.length)then let be:LDIn:=(List.append aK bd);
let bf:=dM be.length;
bif(decide (bf>64))then(bif(j0 0 64 be.length)then let bg:LDIn:=(mU be 0 (Nat.sub 64 0));
let bh:=dM bg.length;
(dU gk NN (bh,0,aP,aQ,aH,aI,aJ,bg,aL,aM,())).bind λ(bi,bj,bk,bl,bm,bn,bo,bp,bq,bt,bv,_)=>
some (bq,bt,bv,bl,bm,())else none)else
let bg:=dM be.length;
(dU gk NN (bg,0,aP,aQ,aH,aI,aJ,be,aL,aM,())).bind λ(bh,bi,bj,bk,bl,bm,bn,bo,bp,bq,bt,_)=>
some (bp,bq,bt,bk,bl,())else none
def wG:X.Cfg:=⟨E0,[tA,pu,fv,vG,C8,zI,jk],[(24,(uaa CW)),(25,(uaa CW))],[(lx 4 0 [zaa 0,zaa 2,zaa 3,(13,.pk ⟨8,1,[]⟩ [0,0]),Uaa 14,Uaa 15] [(2,zab),(6,Zad),(8,uL [N1,(uaa I64),(uaa (uaa CW))])] 16),⟨14,1,qE,[(.normal,qS [zaa 0,zaa 2,zaa 3,Uaa 6] [(2,zab),(6,Zad),(8,Xah)])]⟩,⟨11,2,qS [zaa 0,zaa 2,zaa 3,Uaa 6] [(2,zab),(6,Zad),(8,Xah)],[(.exit 2,qS [zaa 0,zaa 2,zaa 3,Uaa 6,Xaa 32] [(2,zab),(6,Zad),(8,Xah)])]⟩,⟨17,3,qE,[(.normal,qS [zaa 0,zaa 2,zaa 3] [(2,zab),(6,Zad),(8,Xah)])]⟩,⟨29,4,qE,[(.normal,qS [zaa 0,zaa 2,zaa 3,Uaa 101,Uaa 102] [(2,zab),(6,Zad),(8,Zah)])]⟩,⟨26,5,qS [zaa 0,zaa 2,zaa 3,Uaa 101,Uaa 102] [(2,zab),(6,Zad),(8,Zah)],[(.exit 5,qS [zaa 0,zaa 2,zaa 3,Uaa 101,Uaa 102,Xaa 103] [(2,zab),(6,Zad),(8,Zah)])]⟩]⟩
def ql:Ctr:=⟨48,13,[.ptr ⟨2,0,[]⟩ [0]],[(2,zab)],[⟨Zah,[.agg 3],[(2,zab)]⟩],ap2 kz⟩
theorem wn:Lk 7 ql:=ls wG (aC AH (aC sS (aC fG (aC Co (aC Ho (aC DK (aC kR aN)))))))
def kZ:LI×T0h->Option ((LI×T0h)⊕((Bool×Unit)⊕(LI×LI×T0c))):=λ(v0,v1,v2,v3,_)=>
bif(decide (v3<v2))then((d7 v3).bind λx0=>
(dI v1 x0).bind λx1=>
bif(decide (x1<1))then(some (.inr (.inl (false,()))))else
bif(decide (x1>32))then(some (.inr (.inl (false,()))))else
let x2:=w64 (v3+1);
some (.inl (v0,v1,v2,x2,())))else
some (.inr (.inr (v0,v1,v2,v3,false,())))
def gE(a0:List (Int)):Option (Bool×Unit):=
let x0:=dM a0.length;
(match dU kZ NN (a0,a0,x0,0,())with
|none=>none
|some (.inl (x1,_))=>
some (x1,())
|some (.inr (x1,_))=>
let x6:=dM x1.length;
bif(decide (x6>=1))then(let x7:Int:=(dM x1.length);
some ((decide (x7<=4)),()))else
some (false,()))
def zm:X.Cfg:=⟨E0,[],[],[⟨3,0,qS [sP 0 RI,sP 5 RI,Uaa 6,Uaa 7] [],[(.ret,qS [Xaa 2] []),(.exit 0,qS [sP 0 RI,sP 5 RI,Uaa 6,Uaa 7,Xaa 8] [])]⟩]⟩
def lJ:Ctr:=⟨114,14,uL [RI],[],[⟨uac,[.one],[]⟩],ap1 gE⟩
theorem nP:Lk 1 lJ:=ls zm aN
def oI:T1S->Option (T1S⊕(LI×Int×Int×Int×Int×Int×Bool×T0v)):=λ(v0,v1,v2,v3,v4,v5,v6,v7,v8,v9,_)=>
bif(decide (v5<v4))then(let x0:Int:=(w64 (v5+v1));
bif(v2 != 0)then let x1:Int:=(Int.tmod x0 v2);
(d7 x1).bind λx2=>
(dI v8 x2).bind λx3=>
(dI v8 x2).bind λx4=>
let x5:=List.modify v8 x2 λe=>v3;
(d7 x1).bind λx6=>
(dI v0 x6).bind λx7=>
let x8:=w64 (x7+1);
let x9:=w64 (50*v2);
bif(x9 != 0)then let ac:Int:=(w64 (Int.tdiv v1 x9));
let ae:=Int.tmod ac 40;
let af:=w64 (x8+ae);
let ah:=w64 (v3+af);
let ai:=w64 (v5+1);
some (.inl (v0,v1,v2,ah,v4,ai,v6,v7,x5,v9,()))else none else none)else
some (.inr (v0,v1,v2,v3,v4,v5,false,v6,v7,v8,v9,()))
def mC(a0:List (Int))(a1:Int):Option (T0h):=
((gE a0).bind λ(x0,_)=>
bif(!x0)then(some (a0,a1,true,(),0,()))else
bif(decide (a1<0))then(some (a0,a1,true,(),0,()))else
some (a0,a1,(decide (a1>1073741824)),(),0,()):Option (LI×Int×Bool×Unit×Int×Unit)).bind λ(x0,x1,x2,x3,x4,_)=>
bif x2 then(some ([],0,1,()))else
let x5:=dM x0.length;
(d7 x5).bind λx6=>
(d7 x5).bind λx7=>
bif(sf x6 x7 1)then let x8:List (Int):=(List.replicate x6 0);
let x9:=w64 (40503*x1);
let ac:=wk .u16 x9;
bif(x5 != 0)then let ae:Int:=(w64 (Int.tdiv x1 x5));
let af:=Int.tmod ae 50;
let ah:=w64 (1+af);
(dU oI NN (x0,x1,x5,ah,x5,0,x3,x4,x8,ac,())).bind λ(ai,aj,ak,am,an,ap,aq,av,ax,ay,az,_)=>
some (ay,az,0,())else none else none
def Bg:X.Cfg:=⟨E0,[lJ],[],[⟨2,0,qE,[(.normal,(qS [sP 0 RI,Uaa 1,zaa 4,Xaa 21] [(10,uL [N1,CW])]))]⟩,(lx 9 1 [sP 0 RI,Uaa 1,zaa 4,Uaa 6,zaa 7,Uaa 8,Uaa 36,Uaa 37] [(10,uL [N1,CW]),(16,uL [(uaa I64),CW])] 38)]⟩
def tz:Ctr:=⟨104,15,zab,[],[⟨uL [(uaa I64),CW,I64],[.agg 2,.one],[]⟩],ap2 mC⟩
theorem AG:Lk 2 tz:=ls Bg (aC nP aN)
def lw(a0:List (Int))(a1:List (Int))(a2:Int):Option (LI×T0e):=
(dK 1048576 a1 a2).bind λ(x0,x1)=>
(mC a0 x0).bind λ(x3,x4,x5,_)=>
some (x3,x4,x1)
def zp:X.Cfg:=⟨E0,[fv,tz],[],[]⟩
def rK:Ctr:=⟨50,16,[.ptr ⟨2,0,[]⟩ [0],shU RI],[(2,zab)],[⟨uL [(uaa I64),CW],[.agg 2],[(2,zab)]⟩],ap3 lw⟩
theorem yD:Lk 4 rK:=ls zp (aC fG (aC AG aN))
def je(a0:Int)(a1:Int)(a2:Int)(a3:Int):Option (Bool×Unit):=
bif(a0==0)then(bif(a2==0)then(some ((a3==0),()))else
some (false,()))else
bif(a0==2)then(bif(a2==0)then(some ((a3==0),()))else
some (false,()))else
bif(a0==1)then(bif(a2==(-1))then(bif(a1==0)then(bif(decide (a3>=0))then(some ((decide (a3<=65535)),()))else
some (false,()))else
some (false,()))else
bif(a1==0)then(bif(decide (a2>=0))then(bif(decide (a2<4))then(bif(decide (a3>=0))then(some ((decide (a3<32)),()))else
some (false,()))else
some (false,()))else
some (false,()))else
some (false,()))else
some (false,())
def A5:X.Cfg:=⟨E0,[],[],[]⟩
def ph:Ctr:=⟨90,17,[.agg Zag],[],[⟨uac,[.one],[]⟩],ap4 je⟩
theorem sM:Lk 1 ph:=ls A5 aN
def iV:LDCn×Int×T0f->Option ((LDCn×Int×T0f)⊕((Bool×Unit)⊕(LDCn×Int×LDCn×T0c))):=λ(v0,v1,v2,v3,v4,_)=>
bif(decide (v4<v3))then((d7 v4).bind λx0=>
(dI v2 x0).bind λx1=>
(je x1.1 x1.2.1 x1.2.2.1 x1.2.2.2).bind λ(x2,_)=>
bif(!x2)then(some (.inr (.inl (false,()))))else
let x3:=w64 (v4+1);
some (.inl (v0,v1,v2,v3,x3,())))else
some (.inr (.inr (v0,v1,v2,v3,v4,false,())))
def fa(a0:LDCn)(a1:Int):Option (Bool×Unit):=
let x0:=dM a0.length;
(match dU iV NN (a0,a1,a0,x0,0,())with
|none=>none
|some (.inl (x1,_))=>
some (x1,())
|some (.inr (x1,x2,_))=>
let x7:=dM x1.length;
some ((decide (x7<=x2)),()))
def yX:X.Cfg:=⟨E0,[ph],[],[⟨3,0,qS [sP 0 d9,Uaa 1,sP 7 d9,Uaa 8,Uaa 9] [],[(.ret,qS [Xaa 4] []),(.exit 0,qS [sP 0 d9,Uaa 1,sP 7 d9,Uaa 8,Uaa 9,Xaa 10] [])]⟩]⟩
def fW:Ctr:=⟨91,18,uL [d9,I64],[],[⟨uac,[.one],[]⟩],ap2 fa⟩
theorem gI:Lk 2 fW:=ls yX (aC sM aN)
def iT:T0K->Option (T0K⊕((Bool×Unit)⊕(LLCn×T0C))):=λ(v0,v1,v2,v3)=>
bif(decide (v2<v1))then((d7 v2).bind λx0=>
(dI v0 x0).bind λx1=>
(fa x1 64).bind λ(x2,_)=>
bif(!x2)then(some (.inr (.inl (false,()))))else
let x3:=w64 (v2+1);
some (.inl (v0,v1,x3,v3)))else
some (.inr (.inr (v0,v1,v2,false,v3)))
def kW:LDOp×T0q->Option ((LDOp×T0q)⊕((Bool×Unit)⊕(LDOp×T0C))):=λ(v0,v1,v2,v3,v4,_)=>
bif(decide (v2<v1))then((d7 v2).bind λx0=>
(dI v0 x0).bind λx1=>
(bif(x1.1==(-1))then(bif(x1.2.1 != 0)then(some (v0,v1,v2,true,v3,v4,x1.1,x1.2.1,x1.2.2,()))else
bif x1.2.2 then(some (v0,v1,v2,true,v3,v4,x1.1,x1.2.1,x1.2.2,()))else
bif(decide (x1.1<(-1)))then(some (v0,v1,v2,true,v3,v4,x1.1,x1.2.1,x1.2.2,()))else
let x2:=dM v3.length;
bif(decide (x1.1>=x2))then(some (v0,v1,v2,true,v3,v4,x1.1,x1.2.1,x1.2.2,()))else
bif(decide (x1.1>=0))then(bif(decide (x1.2.1<0))then(some (v0,v1,v2,true,v3,v4,x1.1,x1.2.1,x1.2.2,()))else
(d7 x1.1).bind λx3=>
(dI v3 x3).bind λx4=>
let x5:=dM x4.length;
some (v0,v1,v2,(decide (x1.2.1>x5)),v3,v4,x1.1,x1.2.1,x1.2.2,()))else
some (v0,v1,v2,false,v3,v4,x1.1,x1.2.1,x1.2.2,()))else
bif(decide (x1.1<(-1)))then(some (v0,v1,v2,true,v3,v4,x1.1,x1.2.1,x1.2.2,()))else
let x2:=dM v3.length;
bif(decide (x1.1>=x2))then(some (v0,v1,v2,true,v3,v4,x1.1,x1.2.1,x1.2.2,()))else
bif(decide (x1.1>=0))then(bif(decide (x1.2.1<0))then(some (v0,v1,v2,true,v3,v4,x1.1,x1.2.1,x1.2.2,()))else
(d7 x1.1).bind λx3=>
(dI v3 x3).bind λx4=>
let x5:=dM x4.length;
some (v0,v1,v2,(decide (x1.2.1>x5)),v3,v4,x1.1,x1.2.1,x1.2.2,()))else
some (v0,v1,v2,false,v3,v4,x1.1,x1.2.1,x1.2.2,()):Option (LDOp×Int×Int×Bool×LLCn×LDOp×T0c)).bind λ(x2,x3,x4,x5,x6,x7,_)=>
bif x5 then(some (.inr (.inl (false,()))))else
let ae:=w64 (x4+1);
some (.inl (x2,x3,ae,x6,x7,())))else
some (.inr (.inr (v0,v1,v2,false,v3,v4,())))
def jx(a0:List LDCn)(a1:LDOp):Option (Bool×Unit):=
let x0:=dM a0.length;
bif(decide (x0>4))then(some (false,()))else
let x1:=dM a1.length;
bif(x1 != 8)then(some (false,()))else
let x2:=dM a0.length;
(match dU iT NN (a0,x2,0,a0,a1,())with
|none=>none
|some (.inl (x3,_))=>
some (x3,())
|some (.inr (x3,x4,x5,x6,x7,x8,_))=>
let x9:=dM x8.length;
(match dU kW NN (x8,x9,0,x7,x8,())with
|none=>none
|some (.inl (ac,_))=>
some (ac,())
|some (.inr (ac,_))=>
some (true,())))
def yN:X.Cfg:=⟨E0,[fW],[],[⟨6,0,qS [zaa 1,sP 18 (yaa d9),Uaa 19,Uaa 20] [(4,uad)],[(.ret,qS [Xaa 2] []),(.exit 0,qS [zaa 1,sP 18 (yaa d9),Uaa 19,Uaa 20,Xaa 21] [(4,uad)])]⟩,⟨20,1,qE,[(.normal,qS [zaa 1,sP 29 gu,Uaa 30,Uaa 31,Xaa 81] [(4,uad),(14,Uah)])]⟩,⟨15,2,qS [zaa 1,sP 29 gu,Uaa 30,Uaa 31] [(4,uad)],[(.ret,qS [Xaa 2] []),(.exit 2,qS [zaa 1,sP 29 gu,Uaa 30,Uaa 31,Xaa 32] [(4,uad)])]⟩]⟩
def nT:Ctr:=⟨138,19,[.agg uad],[],[⟨uac,[.one],[]⟩],ap2 jx⟩
theorem qV:Lk 3 nT:=ls yN (aC gI aN)
def p8:T1g->Option (T1g⊕(LLI×Int×Int×Bool×T0z)):=λ(v0,v1,v2,v3,v4,v5,v6,_)=>
bif(decide (v2<v1))then((d7 v2).bind λx0=>
(dI v6 x0).bind λx1=>
(dI v6 x0).bind λx2=>
let x3:=(List.modify v6 x0 λe=>((-1),e.2));
let x4:=w64 (v2+1);
some (.inl (v0,v1,x4,v3,v4,v5,x3,())))else
some (.inr (v0,v1,v2,false,v3,v4,v5,v6,()))
def p7:T24->Option (T24⊕(LLI×Int×Int×LI×Int×Int×Bool×T0N)):=λ(v0,v1,v2,v3,v4,v5,v6,v7,v8,v9,v10,_)=>
bif(decide (v5<v4))then((d7 v5).bind λx0=>
(dI v3 x0).bind λx1=>
let x2:LDCn:=[(0,(x1,(0,0)))];
bif(dY 24 v10.length x2.length)then let x3:LDCn:=(List.append v10 x2);
let x4:=w64 (v5+1);
some (.inl (v0,v1,v2,v3,v4,x4,v6,v7,v8,v9,x3,()))else none)else
some (.inr (v0,v1,v2,v3,v4,v5,false,v6,v7,v8,v9,v10,()))
def p6:T1f->Option (T1f⊕(LLI×T16)):=λ(v0,v1,v2,v3,v4,v5,v6,_)=>
bif(decide (v2<v1))then((d7 v2).bind λx0=>
(dI v0 x0).bind λx1=>
let x2:=dM x1.length;
(dU p7 NN (v0,v1,v2,x1,x2,0,v3,v4,v5,v6,[],())).bind λ(x3,x4,x5,x6,x7,x8,x9,ac,ae,af,ah,ai,_)=>
bif(dY 24 af.length (List.length [ai]))then let aj:List LDCn:=(List.append af [ai]);
let ak:=w64 (x5+1);
some (.inl (x3,x4,ak,ac,ae,aj,ah,()))else none)else
some (.inr (v0,v1,v2,false,v3,v4,v5,v6,()))
def ny(a0:List LI):Option (LLCn×LDOp×Int×Unit):=
bif(sf 8 8 3)then let x0:LDOp:=(List.replicate 8 (0,(0,false)));
let x1:=dM x0.length;
(dU p8 NN (a0,x1,0,(),(),(),x0,())).bind λ(x2,x3,x4,x5,x6,x7,x8,x9,_)=>
let ac:=dM x2.length;
(dU p6 NN (x2,ac,0,x6,x7,[],x9,())).bind λ(ae,af,ah,ai,aj,ak,am,an,_)=>
(jx am an).bind λ(ap,_)=>
bif(!ap)then(some ([],[],3,()))else
some (am,an,0,())else none
def Ct:X.Cfg:=⟨E0,[nT],[(46,(uaa KCn)),(47,(uaa KCn))],[(lx 4 0 [sP 0 (yaa RW),zaa 2,zaa 4,Uaa 15,Uaa 16] [(6,Xab),(10,uL [N1,(uaa KOp)])] 17),⟨19,1,qS [zaa 2,zaa 4,Zaa 8 19,sP 25 (yaa RW),Uaa 26,Uaa 27,sP 31 RW,Uaa 32,Uaa 33] [(6,Xab),(10,Xae),(19,yag)],[(.exit 4,qS [zaa 2,zaa 4,Zaa 8 19,sP 25 (yaa RW),Uaa 26,Uaa 27,sP 31 RW,Uaa 32,Uaa 33,Xaa 34] [(6,Xab),(10,Xae),(19,yag)])]⟩,⟨11,2,qS [zaa 2,zaa 4,sP 25 (yaa RW),Uaa 26,Uaa 27] [(6,Xab),(10,Xae)],[(.exit 2,qS [zaa 2,zaa 4,sP 25 (yaa RW),Uaa 26,Uaa 27,Xaa 28] [(6,Xab),(10,Xae)])]⟩]⟩
def vy:Ctr:=⟨143,20,uL [(yaa RW)],[],[⟨zaj,[.agg 2,.one],[]⟩],ap1 ny⟩
theorem Cg:Lk 4 vy:=ls Ct (aC qV aN)
def fj:LLI×Int×Int×LLI×Unit->Option ((LLI×Int×Int×LLI×Unit)⊕(LLI×Int×Int×Bool×LLI×Unit)):=λ(v0,v1,v2,v3,_)=>
bif(decide (v2<v1))then((d7 v2).bind λx0=>
(dI v0 x0).bind λx1=>
bif(dY 2 0 x1.length)then let x2:List (Int):=(List.append [] x1);
bif(dY 24 v3.length (List.length [x2]))then let x3:List LI:=(List.append v3 [x2]);
let x4:=w64 (v2+1);
some (.inl (v0,v1,x4,x3,()))else none else none)else
some (.inr (v0,v1,v2,false,v3,()))
def ft(a0:List LI):Option (LLI×Unit):=
let x0:=dM a0.length;
(dU fj NN (a0,x0,0,[],())).bind λ(x1,x2,x3,x4,x5,_)=>
some (x5,())
def rd:X.Cfg:=⟨E0,[],[(15,(uaa CW)),(16,(uaa CW))],[(lx 4 0 [Zaa 3 9,sP 6 (yaa RW),Uaa 7,Uaa 8] [(9,uai)] 9)]⟩
def gY:Ctr:=⟨140,21,uL [(yaa RW)],[],[⟨uai,[.one],[]⟩],ap1 ft⟩
theorem jP:Lk 1 gY:=ls rd aN
def gW:LDOu×T02->Option ((LDOu×T02)⊕((Bool×Unit)⊕(LDOu×T0c))):=λ(v0,v1,v2,_)=>
bif(decide (v2<v1))then((d7 v2).bind λx0=>
(dI v0 x0).bind λx1=>
(bif(x1.1 != v2)then(some (v0,v1,v2,true,()))else
bif(decide (x1.2.1<0))then(some (v0,v1,v2,true,()))else
bif(decide (x1.2.1>=2))then(some (v0,v1,v2,true,()))else
let x2:=dM x1.2.2.length;
some (v0,v1,v2,(decide (x2>16)),()):Option (LDOu×T0c)).bind λ(x2,x3,x4,x5,_)=>
bif x5 then(some (.inr (.inl (false,()))))else
let x6:=w64 (x4+1);
some (.inl (x2,x3,x6,())))else
some (.inr (.inr (v0,v1,v2,false,())))
def jw(a0:LDOu):Option (Bool×Unit):=
let x0:=dM a0.length;
(match dU gW NN (a0,x0,0,())with
|none=>none
|some (.inl (x1,_))=>
some (x1,())
|some (.inr (x1,_))=>
some (true,()))
def uW:X.Cfg:=⟨E0,[],[],[⟨8,0,qE,[(.normal,qS [sP 5 iG,Uaa 6,Uaa 7,Xaa 31] [])]⟩,⟨3,1,qS [sP 5 iG,Uaa 6,Uaa 7] [],[(.ret,qS [Xaa 2] []),(.exit 0,qS [sP 5 iG,Uaa 6,Uaa 7,Xaa 8] [])]⟩]⟩
def o9:Ctr:=⟨139,22,uL [iG],[],[⟨uac,[.one],[]⟩],ap1 jw⟩
theorem uG:Lk 1 o9:=ls uW aN
def iS:T1K->Option (T1K⊕((Bool×Unit)⊕(LLI×T1v))):=λ(v0,v1,v2,v3)=>
bif(decide (v2<v1))then((d7 v2).bind λx0=>
(dI v0 x0).bind λx1=>
let x2:=dM x1.length;
bif(decide (x2>64))then(some (.inr (.inl (false,()))))else
let x3:=w64 (v2+1);
some (.inl (v0,v1,x3,v3)))else
some (.inr (.inr (v0,v1,v2,false,v3)))
def iR:T1F->Option (T1F⊕((Bool×Unit)⊕(LDOu×T1v))):=λ(v0,v1,v2,v3)=>
bif(decide (v2<v1))then((d7 v2).bind λx0=>
(dI v0 x0).bind λx1=>
(fa x1.2.2 16).bind λ(x2,_)=>
bif(!x2)then(some (.inr (.inl (false,()))))else
let x3:=w64 (v2+1);
some (.inl (v0,v1,x3,v3)))else
some (.inr (.inr (v0,v1,v2,false,v3)))
def iu(a0:List (Int))(a1:List (Int))(a2:List LI)(a3:List LDCn)(a4:LDOp)(a5:LDOu):Option (Bool×Unit):=
let x0:=dM a2.length;
(match dU iS NN (a2,x0,0,a0,a1,a2,a3,a4,a5,())with
|none=>none
|some (.inl (x1,_))=>
some (x1,())
|some (.inr (x1,x2,x3,x4,x5,x6,x7,x8,x9,ac,_))=>
let ae:=dM ac.length;
(match dU iR NN (ac,ae,0,x5,x6,x7,x8,x9,ac,())with
|none=>none
|some (.inl (af,_))=>
some (af,())
|some (.inr (af,ah,ai,aj,ak,am,an,ap,aq,av,_))=>
let ax:=dM ak.length;
bif(decide (ax<=64))then(let ay:Int:=(dM am.length);
bif(decide (ay<=64))then(let az:Int:=(dM an.length);
bif(decide (az<=2))then((jx ap aq).bind λ(aA,_)=>
bif aA then(let aB:Int:=(dM av.length);
bif(decide (aB<=200))then((jw av).bind λ(aD,_)=>
some (aD,()))else
some (false,()))else
some (false,()))else
some (false,()))else
some (false,()))else
some (false,())))
def yK:X.Cfg:=⟨E0,[fW,nT,o9],[],[⟨3,0,qS [zaa 1,sP 8 (yaa RW),Uaa 9,Uaa 10] [(4,Zaf)],[(.ret,qS [Xaa 2] []),(.exit 0,qS [zaa 1,sP 8 (yaa RW),Uaa 9,Uaa 10,Xaa 11] [(4,Zaf)])]⟩,⟨12,1,qS [zaa 1,sP 19 iG,Uaa 20,Uaa 21] [(4,Zaf)],[(.ret,qS [Xaa 2] []),(.exit 2,qS [zaa 1,sP 19 iG,Uaa 20,Uaa 21,Xaa 22] [(4,Zaf)])]⟩]⟩
def lE:Ctr:=⟨100,23,[.agg Zaf],[],[⟨uac,[.one],[]⟩],ap6 iu⟩
theorem nK:Lk 4 lE:=ls yK (aC gI (aC qV (aC uG aN)))
def nw(a0:List LI)(a1:List LI)(a2:List (Int))(a3:List (Int)):Option (LI×LI×LLI×LLCn×LDOp×Unit×Int×Unit):=
(ny a0).bind λ(x0,x1,x2,_)=>
bif(x2 != 0)then(some ([],[],[],[],[],(),x2,()))else
bif(dY 2 0 a2.length)then let x3:List (Int):=(List.append [] a2);
bif(dY 2 0 a3.length)then let x4:List (Int):=(List.append [] a3);
(ft a1).bind λ(x5,_)=>
(iu x3 x4 x5 x0 x1 []).bind λ(x6,_)=>
bif(!x6)then(some ([],[],[],[],[],(),3,()))else
some (x3,x4,x5,x0,x1,(),0,())else none else none
def yL:X.Cfg:=⟨E0,[vy,gY,lE],[],[]⟩
def ro:Ctr:=⟨105,24,uL [(yaa RW),(yaa RW),RW,RW],[],[⟨uL [RW,RW,(yaa RW),(yaa d9),gu,N1,I64],[.agg 6,.one],[]⟩],ap4 nw⟩
theorem yj:Lk 5 ro:=ls yL (aC Cg (aC jP (aC nK aN)))
def kA(a0:List (Int))(a1:Int):Option (LI×LI×LLI×LLCn×LDOp×Unit×T06):=
(fE 5 a0 a1).bind λ(x0,x1,x2,_)=>
(fE 3 x1 x2).bind λ(x3,x4,x5,_)=>
let x6:List LI:=[x0,x3];
(fE 8 x4 x5).bind λ(x7,x8,x9,_)=>
(fE 4 x8 x9).bind λ(ac,ae,af,_)=>
let ah:List LI:=[x7,ac];
(fE 5 ae af).bind λ(ai,aj,ak,_)=>
(fE 5 aj ak).bind λ(am,an)=>
(nw x6 ah ai am).bind λ(aq,av,ax,ay,az,aA,aB,_)=>
some (aq,av,ax,ay,az,aA,an)
def wH:X.Cfg:=⟨E0,[pu,ro],[(10,(uaa CW)),(15,(uaa CW))],[]⟩
def qm:Ctr:=⟨51,25,[.ptr ⟨2,0,[]⟩ [0]],[(2,zab)],[⟨uL [RW,RW,(yaa RW),(yaa d9),gu,N1],[.agg 6],[(2,zab)]⟩],ap2 kA⟩
theorem wo:Lk 6 qm:=ls wH (aC sS (aC yj aN))
def i3:T27->Option (T27⊕((Bool×Unit)⊕T2e)):=λ(v0,v1,v2,v3,v4,v5,v6,v7,v8,v9,v10,v11,_)=>
bif(decide (v1<v0))then((d7 v1).bind λx0=>
(dI v11 x0).bind λx1=>
(dI v11 x0).bind λx2=>
(bif(decide (x2<0))then(some (v0,v1,true,v2,v3,v4,v5,v6,v7,v8,v9,v10,v11,()))else
bif(decide (x2>=8))then(some (v0,v1,true,v2,v3,v4,v5,v6,v7,v8,v9,v10,v11,()))else
(d7 v1).bind λx3=>
bif(Nat.beq x3 0)then(bif(!v7)then(some (v0,v1,(x2 != 0),v2,v3,v4,v5,v6,v7,v8,v9,v10,v11,()))else
some (v0,v1,false,v2,v3,v4,v5,v6,v7,v8,v9,v10,v11,()))else
bif(Nat.beq x3 1)then(bif(!v8)then(some (v0,v1,(x2 != 0),v2,v3,v4,v5,v6,v7,v8,v9,v10,v11,()))else
some (v0,v1,false,v2,v3,v4,v5,v6,v7,v8,v9,v10,v11,()))else
bif(Nat.beq x3 2)then(bif(!v9)then(some (v0,v1,(x2 != 0),v2,v3,v4,v5,v6,v7,v8,v9,v10,v11,()))else
some (v0,v1,false,v2,v3,v4,v5,v6,v7,v8,v9,v10,v11,()))else
bif(Nat.beq x3 3)then bif(!v10)then(some (v0,v1,(x2 != 0),v2,v3,v4,v5,v6,v7,v8,v9,v10,v11,()))else
some (v0,v1,false,v2,v3,v4,v5,v6,v7,v8,v9,v10,v11,())else none:Option (T2e)).bind λ(x3,x4,x5,x6)=>
bif x5 then(some (.inr (.inl (false,()))))else
let ak:=w64 (x4+1);
some (.inl (x3,ak,x6)))else
some (.inr (.inr (v0,v1,false,v2,v3,v4,v5,v6,v7,v8,v9,v10,v11,())))
def ln(a0:Int)(a1:Int)(a2:Int)(a3:Int)(a4:Int):Option (Bool×Unit):=
bif(decide (a0<0))then(some (false,()))else
bif(decide (a0>24))then(some (false,()))else
(jg a0).bind λ(x0,x1,x2,x3,_)=>
let x4:List (Int):=[a1,a2,a3];
let x5:=dM x4.length;
(match dU i3 NN (x5,0,a0,a1,a2,a3,a4,x0,x1,x2,x3,x4,())with
|none=>none
|some (.inl (x6,_))=>
some (x6,())
|some (.inr (x6,x7,x8,x9,ac,ae,af,ah,ai,aj,ak,am,an,_))=>
(bif(decide (ah<0))then(some (true,x9,ac,ae,af,ah,()))else
bif(decide (ah>65535))then(some (true,x9,ac,ae,af,ah,()))else
bif(!am)then(some ((ah != 0),x9,ac,ae,af,ah,()))else
some (false,x9,ac,ae,af,ah,()):Option (Bool×T0D)).bind λ(ap,aq,av,ax,ay,az,_)=>
bif ap then(some (false,()))else
(gw aq).bind λ(aA,_)=>
bif aA then(some ((decide (az<64)),()))else
bif(aq==15)then(some ((decide (az<4)),()))else
bif(aq==23)then(some ((decide (az<=15)),()))else
some (true,()))
def zf:X.Cfg:=⟨E0,[pn,jk],[],[⟨12,0,qE,[(.normal,qS [zaa 1,zaa 3,Zaa 23 49,Uaa 24,Uaa 25,Xaa 45] [(4,yad),(8,zag),(49,yae)])]⟩,⟨7,1,qS [zaa 1,zaa 3,Zaa 23 49,Uaa 24,Uaa 25] [(4,yad),(8,zag),(49,yae)],[(.ret,qS [Xaa 2] []),(.exit 0,qS [zaa 1,zaa 3,Zaa 23 49,Uaa 24,Uaa 25,Xaa 26] [(4,yad),(8,zag),(49,yae)])]⟩,⟨15,2,qE,[(.normal,qS [zaa 1,Xaa 64] [(4,yad)])]⟩]⟩
def rG:Ctr:=⟨118,26,[.agg yad],[],[⟨uac,[.one],[]⟩],ap5 ln⟩
theorem yz:Lk 2 rG:=ls zf (aC sQ (aC kR aN))
def iZ:LLI×T0E->Option ((LLI×T0E)⊕((Int×Unit)⊕(LLI×T0R))):=λ(v0,v1,v2,v3,v4,v5,_)=>
bif(decide (v2<v1))then((d7 v2).bind λx0=>
(dI v0 x0).bind λx1=>
let x2:=dM x1.length;
(d7 v2).bind λx3=>
(dI v4 x3).bind λx4=>
bif(decide (x2>x4))then(some (.inr (.inl (1,()))))else
let x5:=w64 (v2+1);
some (.inl (v0,v1,x5,v3,v4,v5,())))else
some (.inr (.inr (v0,v1,v2,false,v3,v4,v5,())))
def iY:T0Y->Option (T0Y⊕((Int×Unit)⊕T1e)):=λ(v0,v1,v2,v3)=>
bif(decide (v2<v1))then((d7 v2).bind λx0=>
(dI v0 x0).bind λx1=>
(ln x1.1 x1.2.1 x1.2.2.1 x1.2.2.2.1 x1.2.2.2.2).bind λ(x2,_)=>
bif(!x2)then(some (.inr (.inl (5,()))))else
let x3:=w64 (v2+1);
some (.inl (v0,v1,x3,v3)))else
some (.inr (.inr (v0,v1,v2,false,v3)))
def iX:T0Y->Option (T0Y⊕((Int×Unit)⊕T1e)):=λ(v0,v1,v2,v3,v4,v5,_)=>
bif(decide (v2<v1))then((d7 v2).bind λx0=>
(dI v0 x0).bind λx1=>
((gw x1.1).bind λ(x2,_)=>
bif x2 then(let x3:Int:=(dM v3.length);
bif(decide (x1.2.2.2.2>=x3))then(some (v0,v1,v2,true,v3,v4,v5,()))else
bif(x1.1==15)then(let x4:Int:=(dM v4.length);
some (v0,v1,v2,(decide (x1.2.2.2.2>=x4)),v3,v4,v5,()))else
some (v0,v1,v2,false,v3,v4,v5,()))else
bif(x1.1==15)then(let x3:Int:=(dM v4.length);
some (v0,v1,v2,(decide (x1.2.2.2.2>=x3)),v3,v4,v5,()))else
some (v0,v1,v2,false,v3,v4,v5,()):Option (T1e)).bind λ(x2,x3,x4,x5,x6)=>
bif x5 then(some (.inr (.inl (6,()))))else
let x9:=w64 (x4+1);
some (.inl (x2,x3,x9,x6)))else
some (.inr (.inr (v0,v1,v2,false,v3,v4,v5,())))
def iw(a0:LDIn)(a1:List (Int))(a2:List LI):Option (Int×Unit):=
(gE a1).bind λ(x0,_)=>
bif(!x0)then(some (1,()))else
let x1:=dM a2.length;
let x2:=dM a1.length;
bif(x1 != x2)then(some (1,()))else
let x3:=dM a2.length;
(match dU iZ NN (a2,x3,0,a0,a1,a2,())with
|none=>none
|some (.inl (x4,_))=>
some (x4,())
|some (.inr (x4,x5,x6,x7,x8,x9))=>
let ae:=dM x8.length;
bif(decide (ae<1))then(some (3,()))else
let af:=dM x8.length;
bif(decide (af>64))then(some (3,()))else
let ah:=dM x8.length;
(match dU iY NN (x8,ah,0,x8,x9)with
|none=>none
|some (.inl (ai,_))=>
some (ai,())
|some (.inr (ai,aj,ak,am,an,ap))=>
let av:=dM an.length;
(match dU iX NN (an,av,0,an,ap)with
|none=>none
|some (.inl (ax,_))=>
some (ax,())
|some (.inr (ax,_))=>
some (0,()))))
def ze:X.Cfg:=⟨E0,[lJ,rG,jk],[],[⟨6,0,qS [zaa 1,sP 23 (yaa RW),Uaa 24,Uaa 25] [(4,uab)],[(.ret,qS [Uaa 2] []),(.exit 0,qS [zaa 1,sP 23 (yaa RW),Uaa 24,Uaa 25,Xaa 26] [(4,uab)])]⟩,⟨18,1,qS [zaa 1,sP 50 fc,Uaa 51,Uaa 52] [(4,uab)],[(.ret,qS [Uaa 2] []),(.exit 2,qS [zaa 1,sP 50 fc,Uaa 51,Uaa 52,Xaa 53] [(4,uab)])]⟩,⟨32,2,qE,[(.normal,qS [zaa 1,sP 61 fc,Uaa 62,Uaa 63,Xaa 90] [(4,uab)])]⟩,⟨27,3,qS [zaa 1,sP 61 fc,Uaa 62,Uaa 63] [(4,uab)],[(.ret,qS [Uaa 2] []),(.exit 4,qS [zaa 1,sP 61 fc,Uaa 62,Uaa 63,Xaa 64] [(4,uab)])]⟩]⟩
def lH:Ctr:=⟨68,27,[.agg uab],[],[⟨Xad,[.one],[]⟩],ap3 iw⟩
theorem nN:Lk 3 lH:=ls ze (aC nP (aC yz (aC kR aN)))
def i6:T23->Option (T23⊕((Bool×Unit)⊕T2c)):=λ(v0,v1,v2,v3,v4,v5,v6,v7,v8,v9)=>
bif(decide (v8<v7))then((match((d7 v8).bind λx0=>
(dI v6 x0).bind λx1=>
(d7 v1).bind λx2=>
(dI v0 x2).bind λx3=>
let x4:=w64 (v2+x3);
bif(decide (x4>=x1))then((d7 v8).bind λx5=>
(dI v0 x5).bind λx6=>
let x7:=w64 (x1+x6);
bif(decide (x7>=v2))then(some (.inl (false,())))else
some (.inr (v0,v1,v2,v3,v4,v5,v6,v7,v8,false,v9)))else
some (.inr (v0,v1,v2,v3,v4,v5,v6,v7,v8,false,v9)):Option ((Bool×Unit)⊕T2c))with
|none=>none
|some (.inl (x0,_))=>
some (.inr (.inl (x0,())))
|some (.inr (x0,x1,x2,x3,x4,x5,x6,x7,x8,x9,ac))=>
let af:=w64 (x8+1);
some (.inl (x0,x1,x2,x3,x4,x5,x6,x7,af,ac))))else
some (.inr (.inr (v0,v1,v2,v3,v4,v5,v6,v7,v8,false,v9)))
def i5:LI×T0I->Option ((LI×T0I)⊕((Bool×Unit)⊕(LI×T0Z))):=λ(v0,v1,v2,v3,v4,v5,_)=>
bif(decide (v3<v2))then((d7 v3).bind λx0=>
(dI v1 x0).bind λx1=>
bif(decide (x1<0))then(some (.inr (.inl (false,()))))else
(d7 v3).bind λx2=>
(dI v0 x2).bind λx3=>
let x4:=w64 (512-x3);
bif(decide (x1>x4))then(some (.inr (.inl (false,()))))else
(d7 v3).bind λx5=>
bif(j0 0 x5 v4.length)then let x6:List (Int):=(mU v4 0 (Nat.sub x5 0));
let x7:=dM x6.length;
(match dU i6 NN (v0,v3,x1,v1,v2,v3,x6,x7,0,v4,v5,())with
|none=>none
|some (.inl (x8,_))=>
some (.inr (.inl (x8,())))
|some (.inr (x8,x9,ac,ae,af,ah,ai,aj,ak,am,an))=>
let aq:=w64 (ah+1);
some (.inl (x8,ae,af,aq,an)))else none)else
some (.inr (.inr (v0,v1,v2,v3,false,v4,v5,())))
def gz(a0:List (Int))(a1:Int)(a2:List (Int)):Option (Bool×Unit):=
(gE a2).bind λ(x0,_)=>
bif(!x0)then(some (false,()))else
let x1:=dM a0.length;
let x2:=dM a2.length;
bif(x1 != x2)then(some (false,()))else
let x3:=dM a0.length;
(match dU i5 NN (a2,a0,x3,0,a0,a1,())with
|none=>none
|some (.inl (x4,_))=>
some (x4,())
|some (.inr (x4,_))=>
some (true,()))
def zk:X.Cfg:=⟨E0,[lJ],[],[⟨18,0,qE,[(.ret,qS [Xaa 4] []),(.normal,qS [sP 1 RI,zaa 2,Uaa 5,Uaa 6,sP 21 RI,Uaa 22,Uaa 23,sP 42 RI,Uaa 43,Uaa 44,Xaa 66] [(6,yab)])]⟩,⟨15,1,qS [sP 1 RI,zaa 2,Uaa 5,Uaa 6,sP 21 RI,Uaa 22,Uaa 23,sP 42 RI,Uaa 43,Uaa 44] [(6,yab)],[(.ret,qS [Xaa 4] []),(.exit 2,qS [sP 1 RI,zaa 2,Uaa 5,Uaa 6,sP 21 RI,Uaa 22,Uaa 23,sP 42 RI,Uaa 43,Uaa 44,Xaa 45] [(6,yab)])]⟩,⟨6,2,qS [sP 1 RI,zaa 2,sP 21 RI,Uaa 22,Uaa 23] [(6,yab)],[(.ret,qS [Xaa 4] []),(.exit 0,qS [sP 1 RI,zaa 2,sP 21 RI,Uaa 22,Uaa 23,Xaa 24] [(6,yab)])]⟩]⟩
def jW:Ctr:=⟨58,28,[.agg yab,shU RI],[],[⟨uac,[.one],[]⟩],ap3 gz⟩
theorem lC:Lk 2 jW:=ls zk (aC nP aN)
def tI:Int×Int×LDLn×Unit->Option ((Int×Int×LDLn×Unit)⊕(Int×Int×Bool×LDLn×Unit)):=λ(v0,v1,v2,_)=>
bif(decide (v1<v0))then((d7 v1).bind λx0=>
(dI v2 x0).bind λx1=>
(dI v2 x0).bind λx2=>
let x3:=(List.modify v2 x0 λe=>((-1),e.2));
let x4:=w64 (v1+1);
some (.inl (v0,x4,x3,())))else
some (.inr (v0,v1,false,v2,()))
def lq:Option (LDLn×Unit):=
bif(sf 4 4 3)then let x0:LDLn:=(List.replicate 4 (0,(false,[])));
let x1:=dM x0.length;
(dU tI NN (x1,0,x0,())).bind λ(x2,x3,x4,x5,_)=>
some (x5,())else none
def zj:X.Cfg:=⟨E0,[],[(3,MK)],[(lx 4 0 [Zaa 1 5,Uaa 5,Uaa 6] [(5,uL [jm])] 7)]⟩
def nY:Ctr:=⟨61,29,[],[],[⟨uL [jm],[.one],[]⟩],λh=>lq⟩
theorem q7:Lk 1 nY:=ls zj aN
def oH:T2p->Option (T2p⊕(Int×LLI×Int×Int×LI×T26)):=λ(v0,v1,v2,v3,v4,v5,v6,v7,v8,v9,v10,v11,v12,v13,v14,v15,_)=>
bif(decide (v6<v5))then((d7 v6).bind λx0=>
(dI v4 x0).bind λx1=>
(d7 v0).bind λx2=>
(dI v10 x2).bind λx3=>
let x4:=w64 (x3+v6);
(d7 x4).bind λx5=>
(dI v14 x5).bind λx6=>
(dI v14 x5).bind λx7=>
let x8:=List.modify v14 x5 λe=>(e.1,x1);
let x9:=w64 (v6+1);
some (.inl (v0,v1,v2,v3,v4,v5,x9,v7,v8,v9,v10,v11,v12,v13,x8,v15,())))else
some (.inr (v0,v1,v2,v3,v4,v5,v6,false,v7,v8,v9,v10,v11,v12,v13,v14,v15,()))
def lY:T2d->Option (T2d⊕((Int×T0a)⊕(LLI×T26))):=λ(v0,v1,v2,v3,v4,v5)=>
bif(decide (v2<v1))then((d7 v2).bind λx0=>
(dI v0 x0).bind λx1=>
let x2:=dM x1.length;
(d7 v2).bind λx3=>
(dI v4 x3).bind λx4=>
bif(decide (x2>x4))then(some (.inr (.inl (1,(),(),()))))else
let x5:=dM x1.length;
(dU oH NN (v2,v0,v1,v2,x1,x5,0,v3,v4,v5)).bind λ(x6,x7,x8,x9,ac,ae,af,ah,ai)=>
let ay:=w64 (x9+1);
some (.inl (x7,x8,ay,ai)))else
some (.inr (.inr (v0,v1,v2,false,v3,v4,v5)))
def mA(a0:LDIn)(a1:List (Int))(a2:List LI)(a3:List (Int))(a4:Int):Option (LDCe×LDLn×Int×Unit):=
(gz a3 a4 a1).bind λ(x0,_)=>
bif(!x0)then(some ([],[],1,()))else
let x1:=dM a2.length;
let x2:=dM a1.length;
bif(x1 != x2)then(some ([],[],1,()))else
bif(sf 512 512 2)then let x3:LDCe:=(List.replicate 512 (0,0));
(lq).bind λ(x4,_)=>
let x5:=dM a2.length;
(match dU lY NN (a2,x5,0,a0,a1,a2,a3,a4,(),(),x3,x4,())with
|none=>none
|some (.inl (x6,x7,x8,_))=>
some ([],[],x6,())
|some (.inr (x6,x7,x8,x9,ac,ae,af,ah,ai,aj,ak,am,an,_))=>
some (am,an,0,()))else none
def Be:X.Cfg:=⟨E0,[jW,nY],[],[⟨16,0,qS [zaa 2,zaa 3,zaa 4,zaa 6,Uaa 7,sP 30 (yaa RW),Uaa 31,Uaa 32,sP 46 RW,Uaa 47,Uaa 48] [(6,uab),(8,yab),(10,Xab),(14,yaf)],[(.exit 2,qS [zaa 2,zaa 3,zaa 4,zaa 6,Uaa 7,sP 30 (yaa RW),Uaa 31,Uaa 32,sP 46 RW,Uaa 47,Uaa 48,Xaa 49] [(6,uab),(8,yab),(10,Xab),(14,yaf)])]⟩,⟨7,1,qS [zaa 2,zaa 3,zaa 4,zaa 6,sP 30 (yaa RW),Uaa 31,Uaa 32] [(6,uab),(8,yab),(10,Xab),(14,yaf)],[(.ret,qS [zaa 4,Uaa 5] [(10,Xab)]),(.exit 0,qS [zaa 2,zaa 3,zaa 4,zaa 6,sP 30 (yaa RW),Uaa 31,Uaa 32,Xaa 33] [(6,uab),(8,yab),(10,Xab),(14,yaf)])]⟩]⟩
def tu:Ctr:=⟨69,30,[.agg uab,.agg yab],[],[⟨uL [(uaa KCe),jm,I64],[.agg 2,.one],[]⟩],ap5 mA⟩
theorem AE:Lk 3 tu:=ls Be (aC lC (aC q7 aN))
def og:T1Z->Option (T1Z⊕(Int×Bool×T1W)):=λ(v0,v1,v2,v3,v4,v5,v6,v7,v8,v9,v10,_)=>
bif(decide (v0<4))then(bif(sf 8 8 2)then let x0:LDCe:=(List.replicate 8 (0,0));
(bif(v0==0)then(some (v0,v1,v2,v3,v4,v5,v6,v7,v8,v9,v10,1,x0,0,0,(-1),(-1),0,0,()))else
some (v0,v1,v2,v3,v4,v5,v6,v7,v8,v9,v10,0,x0,0,0,(-1),(-1),0,0,()):Option (Int×Unit×Int×Unit×Unit×Unit×T2g)).bind λ(x1,x2,x3,x4,x5,x6,x7,x8,x9,ac,ae,af,ah,ai,aj,ak,am,an,ap,_)=>
let aq:LDTh:=[(af,(ah,(ai,(aj,(ak,(am,(an,ap)))))))];
bif(dY 80 ae.length aq.length)then let av:LDTh:=(List.append ae aq);
let ax:=w64 (x1+1);
some (.inl (ax,x2,x3,x4,x5,x6,x7,x8,x9,ac,av,()))else none else none)else
some (.inr (v0,false,v1,v2,v3,v4,v5,v6,v7,v8,v9,v10,()))
def lm(a0:LDIn)(a1:List (Int))(a2:List LI)(a3:List (Int))(a4:Int):Option (LI×Int×LDCe×LDLn×LDTh×Int×Unit):=
(iw a0 a1 a2).bind λ(x0,_)=>
bif(x0 != 0)then(some ([],0,[],[],[],x0,()))else
(gz a3 a4 a1).bind λ(x1,_)=>
bif(!x1)then(some ([],0,[],[],[],1,()))else
(mA a0 a1 a2 a3 a4).bind λ(x2,x3,x4,_)=>
bif(dY 8 0 a3.length)then let x5:List (Int):=(List.append [] a3);
(dU og NN (0,(),0,(),(),(),x5,a4,x2,x3,[],())).bind λ(x6,x7,x8,x9,ac,ae,af,ah,ai,aj,ak,am,_)=>
some (ah,ai,aj,ak,am,0,())else none
def zd:X.Cfg:=⟨E0,[lH,jW,tu],[(49,LD),(50,LD)],[⟨18,0,qE,[(.normal,qS [zaa 4,zaa 9,zaa 11,Uaa 38] [(10,Zab),(20,Uaj),(24,uah)])]⟩,(lx 12 1 [zaa 4,zaa 9,Uaa 38] [(10,Zab),(20,Uaj)] 39)]⟩
def rF:Ctr:=⟨30,31,[.agg uab,.agg yab],[],[⟨uL [RI,CW,eZ,fr,ov,I64],[.agg 5,.one],[]⟩],ap5 lm⟩
theorem yy:Lk 4 rF:=ls zd (aC nN (aC lC (aC AE aN)))
def fD(a0:List (Int))(a1:Int)(a2:Int):Option (Bool×Unit):=
bif(decide (a1>=0))then(let x0:Int:=(dM a0.length);
bif(decide (a1<x0))then(bif(decide (a2>=0))then((d7 a1).bind λx1=>
(dI a0 x1).bind λx2=>
some ((decide (a2<x2)),()))else
some (false,()))else
some (false,()))else
some (false,())
def wE:X.Cfg:=⟨E0,[],[],[]⟩
def iO:Ctr:=⟨115,32,[shU RI,.agg zac],[],[⟨uac,[.one],[]⟩],ap3 fD⟩
theorem kG:Lk 1 iO:=ls wE aN
def fY(a0:List (Int))(a1:Int)(a2:Int)(a3:Int)(a4:Int):Option (Bool×Unit):=
bif(a1==0)then(bif(a3==0)then(some ((a4==0),()))else
some (false,()))else
bif(a1==2)then(bif(a3==0)then(some ((a4==0),()))else
some (false,()))else
bif(a1==1)then(bif(a2==0)then((fD a0 a3 a4).bind λ(x0,_)=>
some (x0,()))else
some (false,()))else
some (false,())
def wD:X.Cfg:=⟨E0,[iO],[],[]⟩
def iN:Ctr:=⟨60,33,[shU RI,.agg Zag],[],[⟨uac,[.one],[]⟩],ap5 fY⟩
theorem kF:Lk 2 iN:=ls wD (aC kG aN)
def it:T1I->Option (T1I⊕((Bool×Unit)⊕(LI×LLCn×Int×Int×LDCn×T0C))):=λ(v0,v1,v2,v3,v4,v5,v6,v7)=>
bif(decide (v6<v5))then((d7 v6).bind λx0=>
(dI v4 x0).bind λx1=>
(fY v0 x1.1 x1.2.1 x1.2.2.1 x1.2.2.2).bind λ(x2,_)=>
bif(!x2)then(some (.inr (.inl (false,()))))else
let x3:=w64 (v6+1);
some (.inl (v0,v1,v2,v3,v4,v5,x3,v7)))else
some (.inr (.inr (v0,v1,v2,v3,v4,v5,v6,false,v7)))
def is:LI×T0K->Option ((LI×T0K)⊕((Bool×Unit)⊕(LI×LLCn×T0C))):=λ(v0,v1,v2,v3,v4)=>
bif(decide (v3<v2))then((d7 v3).bind λx0=>
(dI v1 x0).bind λx1=>
let x2:=dM x1.length;
(match dU it NN (v0,v1,v2,v3,x1,x2,0,v4)with
|none=>none
|some (.inl (x3,_))=>
some (.inr (.inl (x3,())))
|some (.inr (x3,x4,x5,x6,x7,x8,x9,ac,ae))=>
let ah:=w64 (x6+1);
some (.inl (x3,x4,x5,ah,ae))))else
some (.inr (.inr (v0,v1,v2,v3,false,v4)))
def kn(a0:List (Int))(a1:List LDCn)(a2:LDOp):Option (Bool×Unit):=
let x0:=dM a1.length;
(match dU is NN (a0,a1,x0,0,a1,a2,())with
|none=>none
|some (.inl (x1,_))=>
some (x1,())
|some (.inr (x1,_))=>
some (true,()))
def wu:X.Cfg:=⟨E0,[iN],[],[⟨9,0,qS [sP 0 RI,sP 10 (yaa d9),Uaa 11,Uaa 12,sP 16 d9,Uaa 17,Uaa 18] [(8,uad)],[(.ret,qS [Xaa 4] []),(.exit 2,qS [sP 0 RI,sP 10 (yaa d9),Uaa 11,Uaa 12,sP 16 d9,Uaa 17,Uaa 18,Xaa 19] [(8,uad)])]⟩,⟨3,1,qS [sP 0 RI,sP 10 (yaa d9),Uaa 11,Uaa 12] [(8,uad)],[(.ret,qS [Xaa 4] []),(.exit 0,qS [sP 0 RI,sP 10 (yaa d9),Uaa 11,Uaa 12,Xaa 13] [(8,uad)])]⟩]⟩
def qd:Ctr:=⟨101,34,[shU RI,.agg uad],[],[⟨uac,[.one],[]⟩],ap3 kn⟩
theorem vZ:Lk 3 qd:=ls wu (aC kF aN)
def g8:T1J->Option (T1J⊕(LLCn×T1x)):=λ(v0,v1,v2,v3,v4,v5,v6,v7,v8,_)=>
bif(decide (v2<v1))then((d7 v2).bind λx0=>
(dI v0 x0).bind λx1=>
bif(dY 24 0 x1.length)then let x2:LDCn:=(List.append [] x1);
bif(dY 24 v7.length (List.length [x2]))then let x3:List LDCn:=(List.append v7 [x2]);
let x4:=w64 (v2+1);
some (.inl (v0,v1,x4,v3,v4,v5,v6,x3,v8,()))else none else none)else
some (.inr (v0,v1,v2,false,v3,v4,v5,v6,v7,v8,()))
def fQ(a0:List LDCn)(a1:LDOp):Option (T08):=
bif(dY 24 0 a1.length)then let x0:LDOp:=(List.append [] a1);
let x1:=dM a0.length;
(dU g8 NN (a0,x1,0,a0,a1,(),(),[],x0,())).bind λ(x2,x3,x4,x5,x6,x7,x8,x9,ac)=>
some (ac)else none
def AV:X.Cfg:=⟨E0,[],[(21,(uaa KCn)),(22,(uaa KCn))],[(lx 4 0 [zaa 2,zaa 3,sP 11 (yaa d9),Uaa 12,Uaa 13] [(4,uad),(6,Xab),(8,Xae)] 14)]⟩
def ij:Ctr:=⟨141,35,[.agg uad],[],[⟨Xae,[.agg 2],[]⟩],ap2 fQ⟩
theorem ji:Lk 1 ij:=ls AV aN
def g7:LDOu×Int×Int×LDOu×Unit->Option ((LDOu×Int×Int×LDOu×Unit)⊕(LDOu×Int×Int×Bool×LDOu×Unit)):=λ(v0,v1,v2,v3,_)=>
bif(decide (v2<v1))then((d7 v2).bind λx0=>
(dI v0 x0).bind λx1=>
bif(dY 24 0 x1.2.2.length)then let x2:LDCn:=(List.append [] x1.2.2);
let x3:LDOu:=[(x1.1,(x1.2.1,x2))];
bif(dY 40 v3.length x3.length)then let x4:LDOu:=(List.append v3 x3);
let x5:=w64 (v2+1);
some (.inl (v0,v1,x5,x4,()))else none else none)else
some (.inr (v0,v1,v2,false,v3,()))
def jc(a0:LDOu):Option (LDOu×Unit):=
let x0:=dM a0.length;
(dU g7 NN (a0,x0,0,[],())).bind λ(x1,x2,x3,x4,x5,_)=>
some (x5,())
def AQ:X.Cfg:=⟨E0,[],[(18,De),(19,De)],[(lx 4 0 [Zaa 3 9,sP 6 iG,Uaa 7,Uaa 8] [(9,Uai)] 9)]⟩
def pa:Ctr:=⟨142,36,uL [iG],[],[⟨Uai,[.one],[]⟩],ap1 jc⟩
theorem sJ:Lk 1 pa:=ls AQ aN
def mq(a0:List (Int))(a1:List (Int))(a2:List LI)(a3:List LDCn)(a4:LDOp)(a5:LDOu):Option (T11):=
bif(dY 2 0 a0.length)then let x0:List (Int):=(List.append [] a0);
bif(dY 2 0 a1.length)then let x1:List (Int):=(List.append [] a1);
(ft a2).bind λ(x2,_)=>
(fQ a3 a4).bind λ(x3,x4,_)=>
(jc a5).bind λ(x5,_)=>
some (x0,x1,x2,x3,x4,x5,())else none else none
def AN:X.Cfg:=⟨E0,[gY,ij,pa],[],[]⟩
def o7:Ctr:=⟨102,37,[.agg Zaf],[],[⟨Xai,[.agg 6],[]⟩],ap6 mq⟩
theorem sI:Lk 2 o7:=ls AN (aC jP (aC ji (aC sJ aN)))
def vR:T0T->Option (T0T⊕T15):=λ(v0,v1,v2,v3,v4,v5,_)=>
bif(decide (v1<v0))then((d7 v1).bind λx0=>
(dI v4 x0).bind λx1=>
(dI v4 x0).bind λx2=>
let x3:=List.modify v4 x0 λe=>(-1);
let x4:=w64 (v1+1);
some (.inl (v0,x4,v2,v3,x3,v5,())))else
some (.inr (v0,v1,false,v2,v3,v4,v5,()))
def qp:Option (T07):=
bif(sf 4 4 1)then let x0:List (Int):=(List.replicate 4 0);
bif(sf 4 4 1)then let x1:List LI:=(List.replicate 4 []);
let x2:=dM x0.length;
(dU vR NN (x2,0,(),(),x0,x1,())).bind λ(x3,x4,x5,x6,x7,x8)=>
some (x8)else none else none
def Cv:X.Cfg:=⟨E0,[],[(4,(uaa I64))],[(lx 4 0 [zaa 0,zaa 1,Uaa 8,Uaa 9] [(2,Xab),(4,zae)] 10)]⟩
def vz:Ctr:=⟨103,38,[],[],[⟨zae,[.agg 2],[]⟩],λh=>qp⟩
theorem Ch:Lk 1 vz:=ls Cv aN
def tH:T35->Option (T35⊕(Int×Bool×T32)):=λ(v0,v1,v2,v3,v4,v5,v6,v7,v8,v9,v10,v11,v12,v13,v14,v15,v16,v17,v18,v19,v20,v21,v22,v23,v24,v25,v26,v27,v28,v29,v30,v31,v32,v33,v34,v35,v36,_)=>
bif(decide (v0<4))then(bif(dY 8 v36.length (List.length [(-1)]))then let x0:List (Int):=(List.append v36 [(-1)]);
let x1:=w64 (v0+1);
some (.inl (x1,v1,v2,v3,v4,v5,v6,v7,v8,v9,v10,v11,v12,v13,v14,v15,v16,v17,v18,v19,v20,v21,v22,v23,v24,v25,v26,v27,v28,v29,v30,v31,v32,v33,v34,v35,x0,()))else none)else
some (.inr (v0,false,v1,v2,v3,v4,v5,v6,v7,v8,v9,v10,v11,v12,v13,v14,v15,v16,v17,v18,v19,v20,v21,v22,v23,v24,v25,v26,v27,v28,v29,v30,v31,v32,v33,v34,v35,v36,()))
def nv(a0:LDIn)(a1:List (Int))(a2:List LI)(a3:List (Int))(a4:Int)(a5:List (Int))(a6:List (Int))(a7:List LI)(a8:List LDCn)(a9:LDOp)(a10:LDOu):Option (LDIn×LI×LLI×LI×Int×LDCe×LDLn×LDTh×LI×LI×LLI×LLCn×LDOp×LDOu×LI×LLI×Unit×T06):=
(lm a0 a1 a2 a3 a4).bind λ(x0,x1,x2,x3,x4,x5,_)=>
bif(x5 != 0)then(some ([],[],[],[],0,[],[],[],[],[],[],[],[],[],[],[],(),[],x5,()))else
(iu a5 a6 a7 a8 a9 a10).bind λ(x6,_)=>
bif(!x6)then(some ([],[],[],[],0,[],[],[],[],[],[],[],[],[],[],[],(),[],1,()))else
(kn a1 a8 a9).bind λ(x7,_)=>
bif(!x7)then(some ([],[],[],[],0,[],[],[],[],[],[],[],[],[],[],[],(),[],1,()))else
(mq a5 a6 a7 a8 a9 a10).bind λ(x8,x9,ac,ae,af,ah,_)=>
(qp).bind λ(ai,aj,_)=>
(dU tH NN (0,(),(),(),(),0,(),(),(),(),(),(),(),(),(),(),(),(),(),a0,a1,a2,x0,x1,x2,x3,x4,x8,x9,ac,ae,af,ah,ai,aj,(),[],())).bind λ(ak,am,an,ap,aq,av,ax,ay,az,aA,aB,aD,aE,aF,aG,aH,aI,aJ,aK,aL,aM,aO,aP,aQ,aR,aS,aT,aU,aV,aW,aY,aZ,ba,bc,bd,be,bf,bg,_)=>
some (aM,aO,aP,aQ,aR,aS,aT,aU,aV,aW,aY,aZ,ba,bc,bd,be,bf,bg,0,())
def yI:X.Cfg:=⟨E0,[rF,lE,qd,o7,vz],[],[(lx 11 0 [zaa 6,zaa 10,Uaa 39] [(14,Uag),(22,uL [fc,RI,(yaa RW),RI,CW,eZ,fr,fN,RW,RW,(yaa RW),(yaa d9),gu,iG,RI,(yaa RI),N1,(uaa I64)])] 40)]⟩
def rm:Ctr:=⟨49,39,[.agg uab,.agg yab,.agg Zaf],[],[⟨uL [fc,RI,(yaa RW),RI,CW,eZ,fr,fN,RW,RW,(yaa RW),(yaa d9),gu,iG,RI,(yaa RI),N1,(uaa I64),I64],[.agg 18,.one],[]⟩],ap11 nv⟩
theorem yi:Lk 5 rm:=ls yI (aC yy (aC nK (aC vZ (aC sI (aC Ch aN)))))
def ly(a0:List (Int))(a1:Int):Option (T0B):=
(dK 4 a0 a1).bind λ(x0,x1,x2,_)=>
let x3:List (Int):=[0,1,2,3,7,63];
(dK 6 x1 x2).bind λ(x4,x5,x6,_)=>
(d7 x4).bind λx7=>
(dI x3 x7).bind λx8=>
(dI x3 x7).bind λx9=>
(dK 4 x5 x6).bind λ(ac,ae)=>
some (x0,x9,(ac==0),ae)
def zq:X.Cfg:=⟨E0,[fv],[],[]⟩
def rL:Ctr:=⟨53,40,[.ptr ⟨2,0,[]⟩ [0]],[(2,zab)],[⟨Uah,[.agg 3],[(2,zab)]⟩],ap2 ly⟩
theorem yE:Lk 4 rL:=ls zq (aC fG aN)
def gO:T0t->Option (T0t⊕(LDTh×Int×Int×T00)):=λ(v0,v1,v2,v3,_)=>
bif(decide (v2<v1))then(((d7 v2).bind λx0=>
(dI v0 x0).bind λx1=>
bif(x1.1==1)then(bif(dY 8 v3.length (List.length [v2]))then let x2:List (Int):=(List.append v3 [v2]);
some (v0,v1,v2,x2,())else none)else
some (v0,v1,v2,v3,()):Option (T0t)).bind λ(x0,x1,x2,x3,_)=>
let x4:=w64 (x2+1);
some (.inl (x0,x1,x4,x3,())))else
some (.inr (v0,v1,v2,false,v3,()))
def ll(a0:LDTh):Option (LI×Unit):=
let x0:=dM a0.length;
(dU gO NN (a0,x0,0,[],())).bind λ(x1,x2,x3,x4,x5,_)=>
some (x5,())
def y9:X.Cfg:=⟨E0,[],[],[⟨7,0,qE,[(.normal,qS [Zaa 3 9,sP 6 fN,Uaa 7,Uaa 8] [(9,yae)])]⟩,(lx 4 1 [Zaa 3 9,sP 6 fN,Uaa 7,Uaa 8] [(9,yae)] 9)]⟩
def rC:Ctr:=⟨106,41,uL [fN],[],[⟨yae,[.one],[]⟩],ap1 ll⟩
theorem yv:Lk 1 rC:=ls y9 aN
def ko(a0:LDIn)(a1:List (Int))(a2:List LI)(a3:List (Int))(a4:Int)(a5:LDCe)(a6:LDLn)(a7:LDTh)(a8:List (Int))(a9:List (Int))(a10:List LI)(a11:List LDCn)(a12:LDOp)(a13:LDOu)(a14:List (Int))(a15:List LI)(a16:LDEn)(a17:List (Int)):Option (T2w):=
bif(dY 8 0 a17.length)then let x0:List (Int):=(List.append [] a17);
bif(dY 184 0 a16.length)then let x1:LDEn:=(List.append [] a16);
some (a0,a1,a2,a3,a4,a5,a6,a7,a8,a9,a10,a11,a12,a13,a14,a15,x1,x0,())else none else none
def wv:X.Cfg:=⟨E0,[],[(9,If)],[]⟩
def qe:Ctr:=⟨107,42,[.agg Zae],[],[⟨Xac,[.agg 18],[]⟩],ap18 ko⟩
theorem wd:Lk 1 qe:=ls wv aN
def lT(a0:List (Int))(a1:Int)(a2:LDCe)(a3:LDLn)(a4:LDTh)(a5:Int):Option (Bool×Unit):=
bif(decide (a5<0))then(some (false,()))else
let x0:=dM a4.length;
bif(decide (a5>=x0))then(some (false,()))else
(d7 a5).bind λx1=>
(dI a4 x1).bind λx2=>
bif(x2.1==1)then(bif(x2.2.2.2.2.1 != (-1))then(some ((x2.2.2.2.2.2.1==(-1)),()))else
some (false,()))else
some (false,())
def Cu:X.Cfg:=⟨E0,[],[],[]⟩
def qy:Ctr:=⟨108,43,[.agg yac,shU I64],[],[⟨uac,[.one],[]⟩],ap6 lT⟩
theorem uI:Lk 1 qy:=ls Cu aN
def ib:T1E->Option (T1E⊕(LDLn×Int×Int×Bool×T0X)):=λ(v0,v1,v2,v3,v4,v5,v6,v7,v8,_)=>
bif(decide (v2<v1))then((d7 v2).bind λx0=>
(dI v0 x0).bind λx1=>
bif(dY 4 0 x1.2.2.length)then let x2:LDCe:=(List.append [] x1.2.2);
let x3:LDLn:=[(x1.1,(x1.2.1,x2))];
bif(dY 40 v8.length x3.length)then let x4:LDLn:=(List.append v8 x3);
let x5:=w64 (v2+1);
some (.inl (v0,v1,x5,v3,v4,v5,v6,v7,x4,()))else none else none)else
some (.inr (v0,v1,v2,false,v3,v4,v5,v6,v7,v8,()))
def mB(a0:LDCe)(a1:LDLn):Option (T04):=
bif(dY 4 0 a0.length)then let x0:LDCe:=(List.append [] a0);
let x1:=dM a1.length;
(dU ib NN (a1,x1,0,a0,a1,(),(),x0,[],())).bind λ(x2,x3,x4,x5,x6,x7,x8,x9,ac)=>
some (ac)else none
def Bf:X.Cfg:=⟨E0,[],[(24,MK),(25,MK)],[(lx 4 0 [zaa 2,zaa 3,sP 11 fr,Uaa 12,Uaa 13] [(4,zad),(6,Xab),(8,yaf)] 14)]⟩
def tw:Ctr:=⟨92,44,[.agg zad],[],[⟨yaf,[.agg 2],[]⟩],ap2 mB⟩
theorem AF:Lk 1 tw:=ls Bf aN
def hY:T2x->Option (T2x⊕(LDTh×Int×Int×Bool×T2n)):=λ(v0,v1,v2,v3,v4,v5,v6,v7,v8,v9,v10,v11,v12,v13,v14,v15,v16,v17,_)=>
bif(decide (v2<v1))then((d7 v2).bind λx0=>
(dI v0 x0).bind λx1=>
bif(dY 4 0 x1.2.1.length)then let x2:LDCe:=(List.append [] x1.2.1);
let x3:LDTh:=[(x1.1,(x2,(x1.2.2.1,(x1.2.2.2.1,(x1.2.2.2.2.1,(x1.2.2.2.2.2.1,(x1.2.2.2.2.2.2.1,x1.2.2.2.2.2.2.2)))))))];
bif(dY 80 v17.length x3.length)then let x4:LDTh:=(List.append v17 x3);
let x5:=w64 (v2+1);
some (.inl (v0,v1,x5,v3,v4,v5,v6,v7,v8,v9,v10,v11,v12,v13,v14,v15,v16,x4,()))else none else none)else
some (.inr (v0,v1,v2,false,v3,v4,v5,v6,v7,v8,v9,v10,v11,v12,v13,v14,v15,v16,v17,()))
def hZ(a0:List (Int))(a1:Int)(a2:LDCe)(a3:LDLn)(a4:LDTh):Option (T0J):=
bif(dY 8 0 a0.length)then let x0:List (Int):=(List.append [] a0);
(mB a2 a3).bind λ(x1,x2,_)=>
let x3:=dM a4.length;
(dU hY NN (a4,x3,0,a0,a1,a2,a3,a4,(),0,(),(),(),x0,a1,x1,x2,[],())).bind λ(x4,x5,x6,x7,x8,x9,ac,ae,af,ah,ai,aj,ak,am,an)=>
some (an)else none
def A9:X.Cfg:=⟨E0,[tw],[(32,LD),(33,LD)],[(lx 4 0 [zaa 2,zaa 3,sP 19 fN,Uaa 20,Uaa 21] [(4,yac),(6,Zab),(8,Uac)] 22)]⟩
def kU:Ctr:=⟨44,45,[.agg yac],[],[⟨Uac,[.agg 5],[]⟩],ap5 hZ⟩
theorem mK:Lk 2 kU:=ls A9 (aC AF aN)
def jy(a0:List (Int))(a1:Int)(a2:LDCe)(a3:LDLn)(a4:LDTh)(a5:Int):Option (T10):=
(hZ a0 a1 a2 a3 a4).bind λ(x0,x1,x2,x3,x4,_)=>
(lT a0 a1 a2 a3 a4 a5).bind λ(x5,_)=>
bif(!x5)then(some (x0,x1,x2,x3,x4,false,()))else
(d7 a5).bind λx6=>
(dI x4 x6).bind λx7=>
(dI x4 x6).bind λx8=>
(dI x4 x6).bind λx9=>
(dI x4 x6).bind λac=>
let ae:=(List.modify x4 x6 λe=>(e.1,(e.2.1,(e.2.2.1,(e.2.2.2.1,(e.2.2.2.2.1,(x8.2.2.1,e.2.2.2.2.2.2)))))));
(dI ae x6).bind λaf=>
let ah:=(List.modify ae x6 λe=>(e.1,(e.2.1,(x9.2.2.2.2.1,e.2.2.2))));
some (x0,x1,x2,x3,ah,true,())
def uX:X.Cfg:=⟨E0,[kU,qy],[],[]⟩
def pb:Ctr:=⟨109,46,[.agg yac,shU I64],[],[⟨Xaj,[.agg 5,.one],[]⟩],ap6 jy⟩
theorem uH:Lk 3 pb:=ls uX (aC mK (aC uI aN))
def jJ(a0:Int)(a1:Int):Option (Bool×Unit):=
some ((decide (a0<=2)),())
def zo:X.Cfg:=⟨E0,[],[],[]⟩
def n5:Ctr:=⟨135,47,[.agg Uab],[],[⟨uac,[.one],[]⟩],ap2 jJ⟩
theorem q8:Lk 1 n5:=ls zo aN
def kx:LDCe×T02->Option ((LDCe×T02)⊕((Bool×Unit)⊕(LDCe×T0c))):=λ(v0,v1,v2,_)=>
bif(decide (v2<v1))then((d7 v2).bind λx0=>
(dI v0 x0).bind λx1=>
(jJ x1.1 x1.2).bind λ(x2,_)=>
bif(!x2)then(some (.inr (.inl (false,()))))else
let x3:=w64 (v2+1);
some (.inl (v0,v1,x3,())))else
some (.inr (.inr (v0,v1,v2,false,())))
def lX(a0:LDCe):Option (Bool×Unit):=
let x0:=dM a0.length;
(match dU kx NN (a0,x0,0,())with
|none=>none
|some (.inl (x1,_))=>
some (x1,())
|some (.inr (x1,_))=>
some (true,()))
def CC:X.Cfg:=⟨E0,[n5],[],[⟨3,0,qS [sP 5 eZ,Uaa 6,Uaa 7] [],[(.ret,qS [Xaa 2] []),(.exit 0,qS [sP 5 eZ,Uaa 6,Uaa 7,Xaa 8] [])]⟩]⟩
def vE:Ctr:=⟨134,48,uL [eZ],[],[⟨uac,[.one],[]⟩],ap1 lX⟩
theorem Cm:Lk 2 vE:=ls CC (aC q8 aN)
def i4:LDLn×T0o->Option ((LDLn×T0o)⊕((Bool×Unit)⊕(LDLn×Int×Int×Bool×T04))):=λ(v0,v1,v2,v3)=>
bif(decide (v2<v1))then((d7 v2).bind λx0=>
(dI v0 x0).bind λx1=>
bif(x1.1==(-1))then(bif x1.2.1 then(some (.inr (.inl (false,()))))else
let x2:=dM x1.2.2.length;
bif(decide (x2>0))then(some (.inr (.inl (false,()))))else
let x3:=w64 (v2+1);
some (.inl (v0,v1,x3,v3)))else
(bif(decide (x1.1<0))then(some (v0,v1,v2,true,v3))else
bif(decide (x1.1>=128))then(some (v0,v1,v2,true,v3))else
let x2:=Int.tmod x1.1 4;
bif(x2 != v2)then(some (v0,v1,v2,true,v3))else
let x3:=dM x1.2.2.length;
bif(x3 != 4)then(some (v0,v1,v2,true,v3))else
(lX x1.2.2).bind λ(x4,_)=>
some (v0,v1,v2,(!x4),v3):Option (LDLn×Int×Int×Bool×T04)).bind λ(x2,x3,x4,x5,x6)=>
bif x5 then(some (.inr (.inl (false,()))))else
let x8:=w64 (x4+1);
some (.inl (x2,x3,x8,x6)))else
some (.inr (.inr (v0,v1,v2,false,v3)))
def lp(a0:LDCe)(a1:LDLn):Option (Bool×Unit):=
(let x0:=dM a0.length;
bif(x0 != 512)then(some (true,a0,a1,()))else
let x1:=dM a1.length;
bif(x1 != 4)then(some (true,a0,a1,()))else
(lX a0).bind λ(x2,_)=>
some ((!x2),a0,a1,()):Option (Bool×T04)).bind λ(x0,x1,x2,_)=>
bif x0 then(some (false,()))else
let x3:=dM x2.length;
(match dU i4 NN (x2,x3,0,x1,x2,())with
|none=>none
|some (.inl (x4,_))=>
some (x4,())
|some (.inr (x4,_))=>
some (true,()))
def zi:X.Cfg:=⟨E0,[vE],[],[⟨2,0,qE,[(.normal,qS [zaa 1,Xaa 20] [(4,zad)])]⟩,⟨16,1,qE,[(.normal,qS [sP 22 fr,Uaa 23,Uaa 24,Xaa 66] [(4,zad)])]⟩,⟨6,2,qS [sP 22 fr,Uaa 23,Uaa 24] [(4,zad)],[(.ret,qS [Xaa 2] []),(.exit 0,qS [sP 22 fr,Uaa 23,Uaa 24,Xaa 25] [(4,zad)])]⟩]⟩
def rH:Ctr:=⟨88,49,[.agg zad],[],[⟨uac,[.one],[]⟩],ap2 lp⟩
theorem yA:Lk 3 rH:=ls zi (aC Cm aN)
def iW:T20->Option (T20⊕((Bool×Unit)⊕(LDCe×Int×Int×Bool×T1q))):=λ(v0,v1,v2,v3)=>
bif(decide (v2<v1))then((d7 v2).bind λx0=>
(dI v0 x0).bind λx1=>
(jJ x1.1 x1.2).bind λ(x2,_)=>
bif(!x2)then(some (.inr (.inl (false,()))))else
let x3:=w64 (v2+1);
some (.inl (v0,v1,x3,v3)))else
some (.inr (.inr (v0,v1,v2,false,v3)))
def lk(a0:Int)(a1:LDCe)(a2:Int)(a3:Int)(a4:Int)(a5:Int)(a6:Int)(a7:Int):Option (Bool×Unit):=
let x0:=dM a1.length;
(match dU iW NN (a1,x0,0,a0,a1,a2,a3,a4,a5,a6,a7,())with
|none=>none
|some (.inl (x1,_))=>
some (x1,())
|some (.inr (x1,x2,x3,x4,x5,x6,x7,x8,x9,ac,ae,af,_))=>
bif(decide (x5>=0))then(bif(decide (x5<=4))then(let ah:Int:=(dM x6.length);
bif(ah==8)then(bif(decide (x7>=0))then(bif(decide (x7<=255))then(bif(decide (x8>=0))then(bif(decide (x8<=1099511627776))then(bif(decide (x9>=(-1)))then(bif(decide (x9<=255))then(bif(decide (ac>=(-1)))then(bif(decide (ac<=255))then(bif(decide (ae>=0))then(some ((decide (ae<=6)),()))else
some (false,()))else
some (false,()))else
some (false,()))else
some (false,()))else
some (false,()))else
some (false,()))else
some (false,()))else
some (false,()))else
some (false,()))else
some (false,()))else
some (false,()))else
some (false,()))
def y8:X.Cfg:=⟨E0,[n5],[],[⟨3,0,qS [zaa 1,sP 6 eZ,Uaa 7,Uaa 8] [(4,Uae)],[(.ret,qS [Xaa 2] []),(.exit 0,qS [zaa 1,sP 6 eZ,Uaa 7,Uaa 8,Xaa 9] [(4,Uae)])]⟩]⟩
def rB:Ctr:=⟨89,50,[.agg Uae],[],[⟨uac,[.one],[]⟩],ap8 lk⟩
theorem yu:Lk 2 rB:=ls y8 (aC q8 aN)
def kY:T1r->Option (T1r⊕((Bool×Unit)⊕(LDTh×Int×Int×T0O))):=λ(v0,v1,v2,v3)=>
bif(decide (v2<v1))then((d7 v2).bind λx0=>
(dI v0 x0).bind λx1=>
(lk x1.1 x1.2.1 x1.2.2.1 x1.2.2.2.1 x1.2.2.2.2.1 x1.2.2.2.2.2.1 x1.2.2.2.2.2.2.1 x1.2.2.2.2.2.2.2).bind λ(x2,_)=>
bif(!x2)then(some (.inr (.inl (false,()))))else
let x3:=w64 (v2+1);
some (.inl (v0,v1,x3,v3)))else
some (.inr (.inr (v0,v1,v2,false,v3)))
def iv(a0:LDIn)(a1:List (Int))(a2:List LI)(a3:List (Int))(a4:Int)(a5:LDCe)(a6:LDLn)(a7:LDTh):Option (Bool×Unit):=
((iw a0 a1 a2).bind λ(x0,_)=>
bif(x0 != 0)then(some (true,a3,a4,a5,a6,a7,()))else
(gz a3 a4 a1).bind λ(x1,_)=>
bif(!x1)then(some (true,a3,a4,a5,a6,a7,()))else
(lp a5 a6).bind λ(x2,_)=>
bif(!x2)then(some (true,a3,a4,a5,a6,a7,()))else
let x3:=dM a7.length;
some ((x3 != 4),a3,a4,a5,a6,a7,()):Option (T0O)).bind λ(x0,x1,x2,x3,x4,x5,_)=>
bif x0 then(some (false,()))else
let x6:=dM x5.length;
(match dU kY NN (x5,x6,0,x1,x2,x3,x4,x5,())with
|none=>none
|some (.inl (x7,_))=>
some (x7,())
|some (.inr (x7,_))=>
some (true,()))
def yY:X.Cfg:=⟨E0,[lH,jW,rH,rB],[],[⟨2,0,qE,[(.normal,qS [zaa 3,Xaa 29] [(8,yac)])]⟩,⟨6,1,qS [sP 31 fN,Uaa 32,Uaa 33] [(8,yac)],[(.ret,qS [Xaa 4] []),(.exit 0,qS [sP 31 fN,Uaa 32,Uaa 33,Xaa 34] [(8,yac)])]⟩]⟩
def lG:Ctr:=⟨41,51,[.agg uab,.agg yac],[],[⟨uac,[.one],[]⟩],ap8 iv⟩
theorem nM:Lk 4 lG:=ls yY (aC nN (aC lC (aC yA (aC yu aN))))
def fe(a0:Nat)(a1:Int)(a2:LDTh):Option (Int×LDTh×Unit):=
(dI a2 a0).bind λx0=>
let x1:=List.modify a2 a0 λe=>(4,e.2);
(dI x1 a0).bind λx2=>
let x3:=(List.modify x1 a0 λe=>(e.1,(e.2.1,(e.2.2.1,(e.2.2.2.1,(e.2.2.2.2.1,(e.2.2.2.2.2.1,(a1,e.2.2.2.2.2.2.2))))))));
(dI x3 a0).bind λx4=>
let x5:=(List.modify x3 a0 λe=>(e.1,(e.2.1,(e.2.2.1,(e.2.2.2.1,(e.2.2.2.2.1,(e.2.2.2.2.2.1,(e.2.2.2.2.2.2.1,0))))))));
some (2,x5,())
def A6:X.Cfg:=⟨E0,[],[],[]⟩
def to:Ctr:=⟨179,52,[.ptr ⟨2,0,[((),(8,0))]⟩ [0,0],shU I64],[(2,uL [ov])],[⟨Xad,[.one],[(2,uL [ov])]⟩],ap3 fe⟩
theorem AC:Lk 1 to:=ls A6 aN
def eH:T1G->Option (T1G⊕(T0b⊕T1T)):=λ(v0,v1,v2,v3,v4,v5)=>
bif(decide (v4<v3))then((match((d7 v4).bind λx0=>
(dI v2 x0).bind λx1=>
bif(decide (v1>=x1))then((d7 v4).bind λx2=>
(dI v0 x2).bind λx3=>
let x4:=w64 (x1+x3);
bif(decide (v1<x4))then(let x5:Int:=(w64 (v1-x1));
some (.inl (true,v4,x5,())))else
some (.inr (v0,v1,v4,x1,v2,v3,v4,false,v5)))else
some (.inr (v0,v1,v4,x1,v2,v3,v4,false,v5)):Option (T0b⊕T2b))with
|none=>none
|some (.inl (x0,x1,x2,_))=>
some (.inr (.inl (x0,x1,x2,())))
|some (.inr (x0,x1,x2,x3,x4,x5,x6,x7,x8))=>
let af:=w64 (x6+1);
some (.inl (x0,x1,x4,x5,af,x8))))else
some (.inr (.inr (v0,v1,v2,v3,v4,false,v5)))
def eW(a0:List (Int))(a1:Int)(a2:List (Int))(a3:Int):Option (T0c):=
let x0:=dM a0.length;
(match dU eH NN (a2,a3,a0,x0,0,a0,a1,0,0,())with
|none=>none
|some (.inl (x1,x2,x3,_))=>
some (x2,x3,x1,())
|some (.inr (x1,x2,x3,_))=>
some (0,0,false,()))
def u4:X.Cfg:=⟨E0,[],[],[⟨6,0,qE,[(.ret,qS [zaa 6,Xaa 7] [(14,zac)]),(.normal,qS [sP 1 RI,Uaa 2,zaa 6,Uaa 8,Uaa 9,sP 11 RI,Uaa 12,Uaa 13,Xaa 30] [(8,yab),(14,zac)])]⟩,⟨3,1,qS [sP 1 RI,Uaa 2,zaa 6,sP 11 RI,Uaa 12,Uaa 13] [(8,yab),(14,zac)],[(.ret,qS [zaa 6,Xaa 7] [(14,zac)]),(.exit 0,qS [sP 1 RI,Uaa 2,zaa 6,sP 11 RI,Uaa 12,Uaa 13,Xaa 14] [(8,yab),(14,zac)])]⟩]⟩
def io:Ctr:=⟨34,53,[.agg yab,shU RI,shU I64],[],[⟨Uah,[.agg 2,.one],[]⟩],ap4 eW⟩
theorem jQ:Lk 1 io:=ls u4 aN
def fk(a0:List (Int))(a1:Int)(a2:List (Int))(a3:Int)(a4:Int)(a5:Int)(a6:Bool):Option (T0d):=
bif(a3 != 1)then(some (0,0,3,()))else
let x0:=wk .i64 a4;
(eW a0 a1 a2 x0).bind λ(x1,x2,x3,_)=>
bif(!x3)then(some (0,0,4,()))else
(bif a6 then(let x4:Int:=(wk .i64 a5);
let x5:=w64 (x2-x4);
some (a2,a0,a1,0,0,x1,x5,()))else
let x4:=wk .i64 a5;
let x5:=w64 (x2+x4);
some (a2,a0,a1,0,0,x1,x5,()):Option (LI×LI×T0D)).bind λ(x4,x5,x6,x7,x8,x9,ac,_)=>
(fD x4 x9 ac).bind λ(ae,_)=>
bif(!ae)then(some (0,0,4,()))else
(d7 x9).bind λaf=>
(dI x5 af).bind λah=>
let ai:=w64 (ah+ac);
let aj:=wk .u16 ai;
some (1,aj,0,())
def A8:X.Cfg:=⟨E0,[io,iO],[],[⟨8,0,qE,[(.normal,qS [sP 1 RI,zaa 5,zaa 10,zaa 12] [(12,yab),(22,Uab),(26,zac)])]⟩]⟩
def pm:Ctr:=⟨180,54,[.agg yab,shU RI,.agg Uab,shU CW,shU .bool],[],[⟨yai,[.agg 2,.one],[]⟩],ap7 fk⟩
theorem sO:Lk 2 pm:=ls A8 (aC jQ (aC kG aN))
def jH(a0:Int)(a1:LDCe)(a2:LDLn):Option (Nat×T04):=
let x0:=w64 (Int.tdiv a0 4);
let x1:=Int.tmod x0 4;
(d7 x1).bind λx2=>
(dI a2 x2).bind λx3=>
(dI a2 x2).bind λx4=>
bif(x4.1==x0)then(some (x2,a1,a2,()))else
((dI a2 x2).bind λx5=>
bif x5.2.1 then((dI a2 x2).bind λx6=>
let x7:=w64 (x6.1*4);
(d7 x7).bind λx8=>
bif(j0 x8 a1.length a1.length)then(dI a2 x2).bind λx9=>
(dI a2 x2).bind λac=>
bif(j0 x8 (Nat.add x8 (Nat.min ac.2.2.length (Nat.sub a1.length x8))) a1.length)then bif(Nat.blt 0 (Nat.min ac.2.2.length (Nat.sub a1.length x8)))then(let ae:LDCe:=(oL a1 x8 (Nat.min ac.2.2.length (Nat.sub a1.length x8)) ac.2.2);
let af:=(dM (Nat.min ac.2.2.length (Nat.sub a1.length x8)));
some (x0,x2,ae,a2,()))else
let ae:=(dM (Nat.min ac.2.2.length (Nat.sub a1.length x8)));
some (x0,x2,a1,a2,())else none else none)else
some (x0,x2,a1,a2,()):Option (Int×Nat×T04)).bind λ(x5,x6,x7,x8,_)=>
(dI x8 x6).bind λx9=>
let ac:=List.modify x8 x6 λe=>(x5,e.2);
(dI ac x6).bind λae=>
let af:=(List.modify ac x6 λe=>(e.1,(false,e.2.2)));
let ah:=w64 (x5*4);
let ai:=w64 (x5+1);
let aj:=w64 (ai*4);
(d7 ah).bind λak=>
(d7 aj).bind λam=>
bif(j0 ak am x7.length)then bif(dY 4 0 (List.length (mU x7 ak (Nat.sub am ak))))then let an:LDCe:=(List.append [] (mU x7 ak (Nat.sub am ak)));
(dI af x6).bind λap=>
let aq:=(List.modify af x6 λe=>(e.1,(e.2.1,an)));
some (x6,x7,aq,())else none else none
def zh:X.Cfg:=⟨E0,[],[],[⟨6,0,qE,[(.normal,(qS [zaa 0,Uaa 5,(6,.ptr ⟨2,1,[((),(3,0))]⟩ [0,0])] [(2,yaf)]))]⟩]⟩
def nX:Ctr:=⟨196,55,[.ptr ⟨2,0,[]⟩ [0],shU I64],[(2,yaf)],[⟨[.ptr ⟨2,1,[((),(3,0))]⟩ [0,0]],[.ptr],[(2,yaf)]⟩],ap3 jH⟩
theorem qZ:Lk 1 nX:=ls zh aN
def mz(a0:Int)(a1:LDCe)(a2:LDLn):Option (T0o):=
(jH a0 a1 a2).bind λ(x0,x1,x2,_)=>
(dI x2 x0).bind λx3=>
let x4:=Int.tmod a0 4;
(d7 x4).bind λx5=>
(dI x2 x0).bind λx6=>
(dI x6.2.2 x5).bind λx7=>
(dI x2 x0).bind λx8=>
(dI x8.2.2 x5).bind λx9=>
some (x9.1,x9.2,x1,x2,())
def Bd:X.Cfg:=⟨E0,[nX],[],[]⟩
def tp:Ctr:=⟨181,56,[.ptr ⟨2,0,[]⟩ [0],shU I64],[(2,yaf)],[⟨Uab,[.agg 2],[(2,yaf)]⟩],ap3 mz⟩
theorem AD:Lk 2 tp:=ls Bd (aC qZ aN)
def jG(a0:Int)(a1:Int)(a2:Int)(a3:LDCe)(a4:LDLn):Option (T04):=
(jH a0 a3 a4).bind λ(x0,x1,x2,_)=>
(dI x2 x0).bind λx3=>
let x4:=Int.tmod a0 4;
(d7 x4).bind λx5=>
(dI x2 x0).bind λx6=>
(dI x6.2.2 x5).bind λx7=>
(dI x2 x0).bind λx8=>
(dI x8.2.2 x5).bind λx9=>
let ac:=(List.modify x2 x0 λe=>(e.1,(e.2.1,(List.modify e.2.2 x5 λe=>(a1,a2)))));
(dI ac x0).bind λae=>
let af:=(List.modify ac x0 λe=>(e.1,(true,e.2.2)));
some (x1,af,())
def zg:X.Cfg:=⟨E0,[nX],[],[]⟩
def nW:Ctr:=⟨182,57,[.ptr ⟨2,0,[]⟩ [0],shU I64,.agg Uab],[(2,yaf)],[⟨[],[],[(2,yaf)]⟩],ap5 jG⟩
theorem qY:Lk 2 nW:=ls zg (aC qZ aN)
def jf(a0:Bool):Option (T02):=
bif a0 then(some (0,1,()))else
some (0,0,())
def A7:X.Cfg:=⟨E0,[],[],[]⟩
def pj:Ctr:=⟨197,58,uac,[],[⟨Uab,[.agg 2],[]⟩],ap1 jf⟩
theorem sN:Lk 1 pj:=ls A7 aN
def jE(a0:Int)(a1:Int)(a2:Int):Option (T0d):=
bif(a0==3)then(let x0:Int:=(wk .u16 (a1+a2));
some (0,x0,0,()))else
bif(a0==4)then(let x0:Int:=(wk .u16 (a1-a2));
some (0,x0,0,()))else
bif(a0==5)then(let x0:Int:=(wk .u16 (a1*a2));
some (0,x0,0,()))else
bif(a0==6)then(bif(a2==0)then(some (0,0,5,()))else
bif(a0==6)then(bif(a2 != 0)then let x0:Int:=(wk .u16 (Int.tdiv a1 a2));
some (0,x0,0,())else none)else
bif(a2 != 0)then let x0:Int:=(Int.tmod a1 a2);
some (0,x0,0,())else none)else
bif(a0==7)then(bif(a2==0)then(some (0,0,5,()))else
bif(a0==6)then(bif(a2 != 0)then let x0:Int:=(wk .u16 (Int.tdiv a1 a2));
some (0,x0,0,())else none)else
bif(a2 != 0)then let x0:Int:=(Int.tmod a1 a2);
some (0,x0,0,())else none)else
bif(a0==8)then(let x0:Int:=(arR .and .u16 a1 a2);
some (0,x0,0,()))else
bif(a0==9)then(let x0:Int:=(arR .or .u16 a1 a2);
some (0,x0,0,()))else
bif(a0==10)then(let x0:Int:=(arR .xor .u16 a1 a2);
some (0,x0,0,()))else
bif(a0==11)then(let x0:Int:=(Int.tmod a2 16);
(d7 x0).bind λx1=>
let x2:Int:=(shR .shl .u16 a1 x1);
some (0,x2,0,()))else
bif(a0==12)then(let x0:Int:=(Int.tmod a2 16);
(d7 x0).bind λx1=>
let x2:Int:=(shR .shr .u16 a1 x1);
some (0,x2,0,()))else
(jf (decide (a1<a2))).bind λ(x0,x1,_)=>
some (x0,x1,0,())
def uZ:X.Cfg:=⟨E0,[pj],[],[]⟩
def pi:Ctr:=⟨198,59,uL [I64,CW,CW],[],[⟨yai,[.agg 2,.one],[]⟩],ap3 jE⟩
theorem uM:Lk 2 pi:=ls uZ (aC sN aN)
def jF(a0:List (Int))(a1:Int)(a2:List (Int))(a3:Int)(a4:Int)(a5:Int)(a6:Int):Option (Int×Int×T0c):=
let x0:=wk .i64 a4;
(eW a0 a1 a2 x0).bind λ(x1,x2,x3,_)=>
let x4:=wk .i64 a6;
(eW a0 a1 a2 x4).bind λ(x5,x6,x7,_)=>
bif x3 then(bif x7 then(some (x1,x2,x5,x6,(x1==x5),()))else
some (x1,x2,x5,x6,false,()))else
some (x1,x2,x5,x6,false,())
def zb:X.Cfg:=⟨E0,[io],[],[]⟩
def rE:Ctr:=⟨199,60,[.agg yab,shU RI,.agg Uab,.agg Uab],[],[⟨uL [I64,I64,I64,I64,.bool],[.agg 2,.agg 2,.one],[]⟩],ap7 jF⟩
theorem yx:Lk 2 rE:=ls zb (aC jQ aN)
def pD(a0:List (Int))(a1:Int)(a2:List (Int))(a3:Int)(a4:Int)(a5:Int)(a6:Int)(a7:Int):Option (T0d):=
bif(decide (a3<3))then(some (0,0,1,()))else
bif(decide (a3>14))then(some (0,0,1,()))else
(match(bif(a3==14)then((jf ((a4==a6)&&((a5==a7)&&true))).bind λ(x0,x1,_)=>
some (.inl (0,x0,x1,())))else
bif(a4==0)then(bif(a6==0)then((jE a3 a5 a7).bind λ(x0,x1,x2,_)=>
some (.inl (x2,x0,x1,())))else
(bif(a3==3)then(bif(a4==1)then(some (a2,a3,(a6==0),a0,a1,a4,a5,a6,a7,0,0,()))else
some (a2,a3,false,a0,a1,a4,a5,a6,a7,0,0,()))else
some (a2,a3,false,a0,a1,a4,a5,a6,a7,0,0,()):Option (T22)).bind λ(x0,x1,x2,x3,x4,x5,x6,x7,x8,x9,ac,_)=>
bif x2 then((fk x3 x4 x0 x5 x6 x8 false).bind λ(ae,af,ah,_)=>
some (.inl (ah,ae,af,())))else
(bif(x1==3)then(bif(x5==0)then(some (x0,x1,(x7==1),x3,x4,x5,x6,x7,x8,x9,ac,()))else
some (x0,x1,false,x3,x4,x5,x6,x7,x8,x9,ac,()))else
some (x0,x1,false,x3,x4,x5,x6,x7,x8,x9,ac,()):Option (T22)).bind λ(ae,af,ah,ai,aj,ak,am,an,ap,aq,av,_)=>
bif ah then((fk ai aj ae an ap am false).bind λ(ax,ay,az,_)=>
some (.inl (az,ax,ay,())))else
(bif(af==4)then(bif(ak==1)then(some (ae,af,(an==0),ai,aj,ak,am,an,ap,aq,av,()))else
some (ae,af,false,ai,aj,ak,am,an,ap,aq,av,()))else
some (ae,af,false,ai,aj,ak,am,an,ap,aq,av,()):Option (T22)).bind λ(ax,ay,az,aA,aB,aD,aE,aF,aG,aH,aI,_)=>
bif az then((fk aA aB ax aD aE aG true).bind λ(aJ,aK,aL,_)=>
some (.inl (aL,aJ,aK,())))else
(bif(ay==4)then(bif(aD==1)then(some (ax,ay,(aF==1),aA,aB,aD,aE,aF,aG,aH,aI,()))else
some (ax,ay,false,aA,aB,aD,aE,aF,aG,aH,aI,()))else
bif(ay==13)then(bif(aD==1)then(some (ax,ay,(aF==1),aA,aB,aD,aE,aF,aG,aH,aI,()))else
some (ax,ay,false,aA,aB,aD,aE,aF,aG,aH,aI,()))else
some (ax,ay,false,aA,aB,aD,aE,aF,aG,aH,aI,()):Option (T22)).bind λ(aJ,aK,aL,aM,aO,aP,aQ,aR,aS,aT,aU,_)=>
bif aL then((jF aM aO aJ aP aQ aR aS).bind λ(aV,aW,aY,aZ,ba,_)=>
bif(!ba)then(some (.inl (4,0,0,())))else
bif(aK==13)then((jf (decide (aW<aZ))).bind λ(bc,bd,_)=>
some (.inl (0,bc,bd,())))else
let bc:=w64 (aW-aZ);
let bd:=wk .u16 bc;
some (.inl (0,0,bd,())))else
some (.inr (aJ,aK,false,aM,aO,aP,aQ,aR,aS,aT,aU,())))else
(bif(a3==3)then(bif(a4==1)then(some (a2,a3,(a6==0),a0,a1,a4,a5,a6,a7,0,0,()))else
some (a2,a3,false,a0,a1,a4,a5,a6,a7,0,0,()))else
some (a2,a3,false,a0,a1,a4,a5,a6,a7,0,0,()):Option (T22)).bind λ(x0,x1,x2,x3,x4,x5,x6,x7,x8,x9,ac,_)=>
bif x2 then((fk x3 x4 x0 x5 x6 x8 false).bind λ(ae,af,ah,_)=>
some (.inl (ah,ae,af,())))else
(bif(x1==3)then(bif(x5==0)then(some (x0,x1,(x7==1),x3,x4,x5,x6,x7,x8,x9,ac,()))else
some (x0,x1,false,x3,x4,x5,x6,x7,x8,x9,ac,()))else
some (x0,x1,false,x3,x4,x5,x6,x7,x8,x9,ac,()):Option (T22)).bind λ(ae,af,ah,ai,aj,ak,am,an,ap,aq,av,_)=>
bif ah then((fk ai aj ae an ap am false).bind λ(ax,ay,az,_)=>
some (.inl (az,ax,ay,())))else
(bif(af==4)then(bif(ak==1)then(some (ae,af,(an==0),ai,aj,ak,am,an,ap,aq,av,()))else
some (ae,af,false,ai,aj,ak,am,an,ap,aq,av,()))else
some (ae,af,false,ai,aj,ak,am,an,ap,aq,av,()):Option (T22)).bind λ(ax,ay,az,aA,aB,aD,aE,aF,aG,aH,aI,_)=>
bif az then((fk aA aB ax aD aE aG true).bind λ(aJ,aK,aL,_)=>
some (.inl (aL,aJ,aK,())))else
(bif(ay==4)then(bif(aD==1)then(some (ax,ay,(aF==1),aA,aB,aD,aE,aF,aG,aH,aI,()))else
some (ax,ay,false,aA,aB,aD,aE,aF,aG,aH,aI,()))else
bif(ay==13)then(bif(aD==1)then(some (ax,ay,(aF==1),aA,aB,aD,aE,aF,aG,aH,aI,()))else
some (ax,ay,false,aA,aB,aD,aE,aF,aG,aH,aI,()))else
some (ax,ay,false,aA,aB,aD,aE,aF,aG,aH,aI,()):Option (T22)).bind λ(aJ,aK,aL,aM,aO,aP,aQ,aR,aS,aT,aU,_)=>
bif aL then((jF aM aO aJ aP aQ aR aS).bind λ(aV,aW,aY,aZ,ba,_)=>
bif(!ba)then(some (.inl (4,0,0,())))else
bif(aK==13)then((jf (decide (aW<aZ))).bind λ(bc,bd,_)=>
some (.inl (0,bc,bd,())))else
let bc:=w64 (aW-aZ);
let bd:=wk .u16 bc;
some (.inl (0,0,bd,())))else
some (.inr (aJ,aK,false,aM,aO,aP,aQ,aR,aS,aT,aU,())):Option (T0d⊕T22))with
|none=>none
|some (.inl (x0,x1,x2,_))=>
some (x1,x2,x0,())
|some (.inr (x0,x1,x2,x3,x4,x5,x6,x7,x8,x9,ac,_))=>
some (0,0,3,()))
def Fh:X.Cfg:=⟨E0,[pj,pi,pm,rE],[],[⟨9,0,qE,[(.normal,qS [sP 1 RI,Uaa 2,zaa 5,zaa 8,zaa 9,zaa 10,Xaa 46] [(12,yab),(18,Uab),(20,Uab),(22,Uab)])]⟩,⟨11,1,qE,[(.normal,qS [sP 1 RI,Uaa 2,zaa 5,zaa 8,zaa 9,zaa 10,Xaa 67] [(12,yab),(18,Uab),(20,Uab),(22,Uab)])]⟩,⟨13,2,qE,[(.normal,qS [sP 1 RI,Uaa 2,zaa 5,zaa 8,zaa 9,zaa 10,Xaa 88] [(12,yab),(18,Uab),(20,Uab),(22,Uab)])]⟩,⟨15,3,qE,[(.normal,qS [sP 1 RI,Uaa 2,zaa 5,zaa 8,zaa 9,zaa 10,Xaa 109] [(12,yab),(18,Uab),(20,Uab),(22,Uab)])]⟩,⟨4,4,qE,[(.ret,qS [zaa 10,Uaa 11] [(22,Uab)]),(.normal,qS [sP 1 RI,Uaa 2,zaa 5,zaa 8,zaa 9,zaa 10,Xaa 109] [(12,yab),(18,Uab),(20,Uab),(22,Uab)])]⟩]⟩
def xB:Ctr:=⟨183,61,[.agg yab,shU RI,shU I64,.agg Uab,.agg Uab],[],[⟨yai,[.agg 2,.one],[]⟩],ap8 pD⟩
theorem Fa:Lk 3 xB:=ls Fh (aC sN (aC uM (aC sO (aC yx aN))))
def kv(a0:Int):Option (Bool×Unit):=
(gw a0).bind λ(x0,_)=>
bif x0 then(some (true,()))else
bif(a0==22)then(some (true,()))else
some ((a0==24),())
def wC:X.Cfg:=⟨E0,[jk],[],[]⟩
def qj:Ctr:=⟨184,62,Xad,[],[⟨uac,[.one],[]⟩],ap1 kv⟩
theorem wl:Lk 2 qj:=ls wC (aC kR aN)
def nB(a0:LDIn)(a1:List (Int))(a2:List LI)(a3:Int)(a4:List (Int))(a5:Int)(a6:LDCe)(a7:LDLn)(a8:LDTh):Option (T0V):=
(d7 a3).bind λx0=>
(dI a8 x0).bind λx1=>
(dI a8 x0).bind λx2=>
let x3:=dM a0.length;
bif(decide (x2.2.2.1>=x3))then((fe x0 2 a8).bind λ(x4,x5,_)=>
some (x4,a4,a5,a6,a7,x5,()))else
(dI a8 x0).bind λx4=>
(d7 x4.2.2.1).bind λx5=>
(dI a0 x5).bind λx6=>
(dI a8 x0).bind λx7=>
let x8:=w64 (x7.2.2.1+1);
(dI a8 x0).bind λx9=>
(d7 x6.2.1).bind λac=>
(dI a8 x0).bind λae=>
(dI ae.2.1 ac).bind λaf=>
(dI a8 x0).bind λah=>
(dI ah.2.1 ac).bind λai=>
(dI a8 x0).bind λaj=>
(d7 x6.2.2.1).bind λak=>
(dI a8 x0).bind λam=>
(dI am.2.1 ak).bind λan=>
(dI a8 x0).bind λap=>
(dI ap.2.1 ak).bind λaq=>
(match(bif(x6.1==0)then(some (.inl (x0,x8,a4,a5,a6,a7,a8,x6.1,x6.2.1,x6.2.2.1,x6.2.2.2.1,x6.2.2.2.2,())))else
bif(x6.1==1)then((dI a8 x0).bind λav=>
let ax:=wk .u16 x6.2.2.2.2;
(d7 x6.2.1).bind λay=>
(dI a8 x0).bind λaz=>
(dI az.2.1 ay).bind λaA=>
(dI a8 x0).bind λaB=>
(dI aB.2.1 ay).bind λaD=>
let aE:=(List.modify a8 x0 λe=>(e.1,((List.modify e.2.1 ay λe=>(0,ax)),e.2.2)));
some (.inl (x0,x8,a4,a5,a6,a7,aE,x6.1,x6.2.1,x6.2.2.1,x6.2.2.2.1,x6.2.2.2.2,())))else
bif(x6.1==2)then((dI a8 x0).bind λav=>
(d7 x6.2.1).bind λax=>
(dI a8 x0).bind λay=>
(dI ay.2.1 ax).bind λaz=>
(dI a8 x0).bind λaA=>
(dI aA.2.1 ax).bind λaB=>
let aD:=(List.modify a8 x0 λe=>(e.1,((List.modify e.2.1 ax λe=>(aq.1,aq.2)),e.2.2)));
some (.inl (x0,x8,a4,a5,a6,a7,aD,x6.1,x6.2.1,x6.2.2.1,x6.2.2.2.1,x6.2.2.2.2,())))else
bif(x6.1==15)then((dI a8 x0).bind λav=>
(d7 x6.2.2.2.2).bind λax=>
(dI a4 ax).bind λay=>
let az:=wk .u16 ay;
(d7 x6.2.1).bind λaA=>
(dI a8 x0).bind λaB=>
(dI aB.2.1 aA).bind λaD=>
(dI a8 x0).bind λaE=>
(dI aE.2.1 aA).bind λaF=>
let aG:=(List.modify a8 x0 λe=>(e.1,((List.modify e.2.1 aA λe=>(1,az)),e.2.2)));
some (.inl (x0,x8,a4,a5,a6,a7,aG,x6.1,x6.2.1,x6.2.2.1,x6.2.2.2.1,x6.2.2.2.2,())))else
bif(x6.1==16)then((bif(x6.1==17)then(some (x0,x8,a4,a5,a6,a7,a8,a0,a1,a2,x6.1,x6.2.1,x6.2.2.1,x6.2.2.2.1,x6.2.2.2.2,aq.1,aq.2,ai.1,ai.2,()))else
some (x0,x8,a4,a5,a6,a7,a8,a0,a1,a2,x6.1,x6.2.1,x6.2.2.1,x6.2.2.2.1,x6.2.2.2.2,aq.1,aq.2,aq.1,aq.2,()):Option (T2B)).bind λ(av,ax,ay,az,aA,aB,aD,aE,aF,aG,aH,aI,aJ,aK,aL,aM,aO,aP,aQ,_)=>
let aR:=wk .u16 aL;
(fk ay az aF aP aQ aR false).bind λ(aS,aT,aU,_)=>
bif(aU != 0)then((fe av aU aD).bind λ(aV,aW,_)=>
some (.inr (aV,ay,az,aA,aB,aW,())))else
bif(aH==16)then((dI aD av).bind λaV=>
let aW:=wk .i64 aT;
(mz aW aA aB).bind λ(aY,aZ,ba,bc,_)=>
(d7 aI).bind λbd=>
(dI aD av).bind λbe=>
(dI be.2.1 bd).bind λbf=>
(dI aD av).bind λbg=>
(dI bg.2.1 bd).bind λbh=>
let bi:=(List.modify aD av λe=>(e.1,((List.modify e.2.1 bd λe=>(aY,aZ)),e.2.2)));
some (.inl (av,ax,ay,az,ba,bc,bi,aH,aI,aJ,aK,aL,())))else
let aV:=wk .i64 aT;
(jG aV aM aO aA aB).bind λ(aW,aY,_)=>
some (.inl (av,ax,ay,az,aW,aY,aD,aH,aI,aJ,aK,aL,())))else
bif(x6.1==17)then((bif(x6.1==17)then(some (x0,x8,a4,a5,a6,a7,a8,a0,a1,a2,x6.1,x6.2.1,x6.2.2.1,x6.2.2.2.1,x6.2.2.2.2,aq.1,aq.2,ai.1,ai.2,()))else
some (x0,x8,a4,a5,a6,a7,a8,a0,a1,a2,x6.1,x6.2.1,x6.2.2.1,x6.2.2.2.1,x6.2.2.2.2,aq.1,aq.2,aq.1,aq.2,()):Option (T2B)).bind λ(av,ax,ay,az,aA,aB,aD,aE,aF,aG,aH,aI,aJ,aK,aL,aM,aO,aP,aQ,_)=>
let aR:=wk .u16 aL;
(fk ay az aF aP aQ aR false).bind λ(aS,aT,aU,_)=>
bif(aU != 0)then((fe av aU aD).bind λ(aV,aW,_)=>
some (.inr (aV,ay,az,aA,aB,aW,())))else
bif(aH==16)then((dI aD av).bind λaV=>
let aW:=wk .i64 aT;
(mz aW aA aB).bind λ(aY,aZ,ba,bc,_)=>
(d7 aI).bind λbd=>
(dI aD av).bind λbe=>
(dI be.2.1 bd).bind λbf=>
(dI aD av).bind λbg=>
(dI bg.2.1 bd).bind λbh=>
let bi:=(List.modify aD av λe=>(e.1,((List.modify e.2.1 bd λe=>(aY,aZ)),e.2.2)));
some (.inl (av,ax,ay,az,ba,bc,bi,aH,aI,aJ,aK,aL,())))else
let aV:=wk .i64 aT;
(jG aV aM aO aA aB).bind λ(aW,aY,_)=>
some (.inl (av,ax,ay,az,aW,aY,aD,aH,aI,aJ,aK,aL,())))else
bif(x6.1==18)then(some (.inl (x0,x6.2.2.2.2,a4,a5,a6,a7,a8,x6.1,x6.2.1,x6.2.2.1,x6.2.2.2.1,x6.2.2.2.2,())))else
bif(x6.1==19)then(bif(ai.1 != 0)then((fe x0 3 a8).bind λ(av,ax,_)=>
some (.inr (av,a4,a5,a6,a7,ax,())))else
bif((ai.2==0)==(x6.1==19))then(some (.inl (x0,x6.2.2.2.2,a4,a5,a6,a7,a8,x6.1,x6.2.1,x6.2.2.1,x6.2.2.2.1,x6.2.2.2.2,())))else
some (.inl (x0,x8,a4,a5,a6,a7,a8,x6.1,x6.2.1,x6.2.2.1,x6.2.2.2.1,x6.2.2.2.2,())))else
bif(x6.1==20)then(bif(ai.1 != 0)then((fe x0 3 a8).bind λ(av,ax,_)=>
some (.inr (av,a4,a5,a6,a7,ax,())))else
bif((ai.2==0)==(x6.1==19))then(some (.inl (x0,x6.2.2.2.2,a4,a5,a6,a7,a8,x6.1,x6.2.1,x6.2.2.1,x6.2.2.2.1,x6.2.2.2.2,())))else
some (.inl (x0,x8,a4,a5,a6,a7,a8,x6.1,x6.2.1,x6.2.2.1,x6.2.2.2.1,x6.2.2.2.2,())))else
bif(x6.1==21)then((dI a8 x0).bind λav=>
let ax:=wk .u16 x8;
(d7 x6.2.1).bind λay=>
(dI a8 x0).bind λaz=>
(dI az.2.1 ay).bind λaA=>
(dI a8 x0).bind λaB=>
(dI aB.2.1 ay).bind λaD=>
let aE:=(List.modify a8 x0 λe=>(e.1,((List.modify e.2.1 ay λe=>(0,ax)),e.2.2)));
some (.inl (x0,x6.2.2.2.2,a4,a5,a6,a7,aE,x6.1,x6.2.1,x6.2.2.1,x6.2.2.2.1,x6.2.2.2.2,())))else
bif(x6.1==22)then(bif(ai.1 != 0)then((fe x0 3 a8).bind λ(av,ax,_)=>
some (.inr (av,a4,a5,a6,a7,ax,())))else
bif(decide (ai.2>255))then((fe x0 2 a8).bind λ(av,ax,_)=>
some (.inr (av,a4,a5,a6,a7,ax,())))else
let av:=wk .i64 ai.2;
some (.inl (x0,av,a4,a5,a6,a7,a8,x6.1,x6.2.1,x6.2.2.1,x6.2.2.2.1,x6.2.2.2.2,())))else
bif(x6.1==24)then((dI a8 x0).bind λav=>
bif(av.2.2.2.2.2.1==(-1))then((fe x0 1 a8).bind λ(ax,ay,_)=>
some (.inr (ax,a4,a5,a6,a7,ay,())))else
(dI a8 x0).bind λax=>
(dI a8 x0).bind λay=>
let az:=(List.modify a8 x0 λe=>(e.1,(e.2.1,(e.2.2.1,(e.2.2.2.1,(e.2.2.2.2.1,((-1),e.2.2.2.2.2.2)))))));
some (.inl (x0,ax.2.2.2.2.2.1,a4,a5,a6,a7,az,x6.1,x6.2.1,x6.2.2.1,x6.2.2.2.1,x6.2.2.2.2,())))else
bif(x6.1==23)then((dI a8 x0).bind λav=>
let ax:=List.modify a8 x0 λe=>(2,e.2);
(dI ax x0).bind λay=>
let az:=(List.modify ax x0 λe=>(e.1,(e.2.1,(x8,e.2.2.2))));
some (.inr (1,a4,a5,a6,a7,az,())))else
(dI a8 x0).bind λav=>
(d7 x6.2.2.2.1).bind λax=>
(dI a8 x0).bind λay=>
(dI ay.2.1 ax).bind λaz=>
(dI a8 x0).bind λaA=>
(dI aA.2.1 ax).bind λaB=>
(pD a4 a5 a1 x6.1 aq.1 aq.2 aB.1 aB.2).bind λ(aD,aE,aF,_)=>
bif(aF != 0)then((fe x0 aF a8).bind λ(aG,aH,_)=>
some (.inr (aG,a4,a5,a6,a7,aH,())))else
(dI a8 x0).bind λaG=>
(d7 x6.2.1).bind λaH=>
(dI a8 x0).bind λaI=>
(dI aI.2.1 aH).bind λaJ=>
(dI a8 x0).bind λaK=>
(dI aK.2.1 aH).bind λaL=>
let aM:=(List.modify a8 x0 λe=>(e.1,((List.modify e.2.1 aH λe=>(aD,aE)),e.2.2)));
some (.inl (x0,x8,a4,a5,a6,a7,aM,x6.1,x6.2.1,x6.2.2.1,x6.2.2.2.1,x6.2.2.2.2,())):Option ((Nat×Int×LI×Int×LDCe×LDLn×LDTh×T0D)⊕T0V))with
|none=>none
|some (.inl (av,ax,ay,az,aA,aB,aD,aE,aF,aG,aH,aI,_))=>
(dI aD av).bind λaJ=>
let aK:=(List.modify aD av λe=>(e.1,(e.2.1,(ax,e.2.2.2))));
((kv aE).bind λ(aL,_)=>
bif aL then((dI aK av).bind λaM=>
let aO:=w64 (aM.2.2.2.1+1);
(dI aK av).bind λaP=>
let aQ:=(List.modify aK av λe=>(e.1,(e.2.1,(e.2.2.1,(aO,e.2.2.2.2)))));
some (ay,az,aA,aB,aQ,()))else
some (ay,az,aA,aB,aK,()):Option (T0J)).bind λ(aL,aM,aO,aP,aQ,_)=>
some ((-1),aL,aM,aO,aP,aQ,())
|some (.inr (av,ax,ay,az,aA,aB,_))=>
some (av,ax,ay,az,aA,aB,()))
def Cy:X.Cfg:=⟨E0,[to,pm,tp,nW,xB,qj],[],[⟨17,0,qE,[(.normal,(qS [zaa 1,zaa 3,(7,.ptr ⟨4,4,[((),(8,0))]⟩ [0,0]),zaa 8,Uaa 9,zaa 11,zaa 12] [(4,Uac),(8,uab),(18,yad),(24,Uab),(26,Uab)]))]⟩,⟨8,1,qE,[(.normal,(qS [zaa 1,(7,.ptr ⟨4,4,[((),(8,0))]⟩ [0,0]),zaa 8,Uaa 9] [(4,Uac),(18,yad)])),(.ret,qS [zaa 1,Uaa 6] [(4,Uac)])]⟩,⟨52,2,qE,[(.normal,qS [zaa 1] [(4,Uac)])]⟩]⟩
def vC:Ctr:=⟨164,63,[.agg uab,.ptr ⟨4,0,[]⟩ [0],shU I64],[(4,Uac)],[⟨Xad,[.one],[(4,Uac)]⟩],ap9 nB⟩
theorem Ck:Lk 4 vC:=ls Cy (aC AC (aC sO (aC AD (aC qY (aC Fa (aC wl aN))))))
def of:T2l->Option (T2l⊕T1b):=λ(v0,v1,v2,v3,v4,v5,v6,v7,v8,v9,v10,v11,v12,v13,v14,_)=>
(nB v2 v3 v4 v0 v10 v11 v12 v13 v14).bind λ(x0,x1,x2,x3,x4,x5,_)=>
bif(x0 != (-1))then(some (.inr (x0,0,x1,x2,x3,x4,x5,())))else
(d7 v0).bind λx6=>
(dI x5 x6).bind λx7=>
(dI x5 x6).bind λx8=>
bif(x8.2.2.2.1==v1)then(some (.inr (0,0,x1,x2,x3,x4,x5,())))else
some (.inl (v0,v1,v2,v3,v4,v5,v6,v7,v8,v9,x1,x2,x3,x4,x5,()))
def lj(a0:LDIn)(a1:List (Int))(a2:List LI)(a3:List (Int))(a4:Int)(a5:LDCe)(a6:LDLn)(a7:LDTh)(a8:Int)(a9:Int):Option (LI×Int×LDCe×LDLn×LDTh×T02):=
((iv a0 a1 a2 a3 a4 a5 a6 a7).bind λ(x0,_)=>
bif(!x0)then(some (a8,a9,true,a0,a1,a2,a3,a4,a5,a6,a7,(),0,(),(),(),()))else
bif(decide (a8<0))then(some (a8,a9,true,a0,a1,a2,a3,a4,a5,a6,a7,(),0,(),(),(),()))else
bif(decide (a8>=4))then(some (a8,a9,true,a0,a1,a2,a3,a4,a5,a6,a7,(),0,(),(),(),()))else
bif(decide (a9<1))then(some (a8,a9,true,a0,a1,a2,a3,a4,a5,a6,a7,(),0,(),(),(),()))else
some (a8,a9,(decide (a9>64)),a0,a1,a2,a3,a4,a5,a6,a7,(),0,(),(),(),()):Option (Int×Int×Bool×LDIn×LI×LLI×LI×Int×LDCe×LDLn×LDTh×T0L)).bind λ(x0,x1,x2,x3,x4,x5,x6,x7,x8,x9,ac,ae,af,ah,ai,aj,_)=>
bif x2 then(some ([],0,[],[],[],0,1,()))else
(hZ x6 x7 x8 x9 ac).bind λ(ak,am,an,ap,aq,_)=>
(d7 x0).bind λav=>
(dI ac av).bind λax=>
bif(ax.1 != 1)then(some (ak,am,an,ap,aq,3,0,()))else
(d7 x0).bind λay=>
(dI aq ay).bind λaz=>
(dI aq ay).bind λaA=>
let aB:=w64 (aA.2.2.2.1+x1);
(dU of NN (x0,aB,x3,x4,x5,ae,af,ah,ai,aj,ak,am,an,ap,aq,())).bind λ(aD,aE,aF,aG,aH,aI,aJ,_)=>
some (aF,aG,aH,aI,aJ,aD,aE,())
def yZ:X.Cfg:=⟨E0,[lG,kU,vC],[],[⟨2,0,qE,[(.normal,qS [Uaa 2,Uaa 3,zaa 4,zaa 5,zaa 8,Xaa 33] [(10,uab),(12,yac),(18,Zab)])]⟩,⟨9,1,qS [Uaa 2,zaa 4,zaa 8,zaa 11,Uaa 12] [(10,uab),(18,Zab),(24,Uac)],[(.ret,qS [zaa 8,Uaa 9,Uaa 10] [(18,Uac)])]⟩]⟩
def rA:Ctr:=⟨144,64,[.agg uab,.agg yac,shU I64,shU I64],[],[⟨uL [RI,CW,(uaa KCe),jm,ov,I64,I64],[.agg 5,.one,.one],[]⟩],ap10 lj⟩
theorem yr:Lk 5 rA:=ls yZ (aC nM (aC mK (aC Ck aN)))
def jC(a0:Int):Option (ByteArray×Unit):=
let x0:ByteArray:=(bytes []);
(bif(a0==0)then(some (a0,true,()))else
bif(a0==8)then(some (a0,true,()))else
bif(a0==9)then(some (a0,true,()))else
bif(a0==11)then(some (a0,true,()))else
some (a0,(a0==12),()):Option (T01)).bind λ(x1,x2,_)=>
bif x2 then(let x3:ByteArray:=(bytes [78]);
some (x3,()))else
bif(x1==1)then(let x3:ByteArray:=(bytes [72,80,78]);
some (x3,()))else
bif(x1==2)then(let x3:ByteArray:=(bytes [72,80,78]);
some (x3,()))else
bif(x1==3)then(let x3:ByteArray:=(bytes [78,78]);
some (x3,()))else
bif(x1==4)then(let x3:ByteArray:=(bytes [72]);
some (x3,()))else
bif(x1==5)then(let x3:ByteArray:=(bytes [72,78]);
some (x3,()))else
bif(x1==10)then(let x3:ByteArray:=(bytes [78,88]);
some (x3,()))else
bif(x1==13)then(let x3:ByteArray:=(bytes [78,80,78]);
some (x3,()))else
bif(x1==14)then(let x3:ByteArray:=(bytes [78,80,78]);
some (x3,()))else
let x3:ByteArray:=(bytes []);
some (x3,())
def yT:X.Cfg:=⟨E0,[],[],[⟨3,0,qE,[(.normal,qS [Uaa 3,Xaa 4] [])]⟩]⟩
def lF:Ctr:=⟨165,65,Xad,[],[⟨uL [.str],[.one],[]⟩],ap1 jC⟩
theorem nL:Lk 1 lF:=ls yT aN
def kM(a0:Int)(a1:Int):Option (Bool×Unit):=
bif(a0==78)then(some ((a1==0),()))else
bif(a0==72)then(some ((a1==2),()))else
bif(a0==80)then(some ((a1==1),()))else
some (true,())
def A3:X.Cfg:=⟨E0,[],[],[]⟩
def pf:Ctr:=⟨166,66,uL [CB,CB],[],[⟨uac,[.one],[]⟩],ap2 kM⟩
theorem sL:Lk 1 pf:=ls A3 aN
def gS(a0:Int):Option (Int×Unit):=
bif(decide (a0<0))then(some ((-1),()))else
bif(decide (a0>15))then(some ((-1),()))else
bif(a0==1)then(some (1,()))else
bif(a0==13)then(some (1,()))else
bif(a0==2)then(some (2,()))else
bif(a0==14)then(some (2,()))else
some (0,())
def wz:X.Cfg:=⟨E0,[],[],[]⟩
def iM:Ctr:=⟨148,67,Xad,[],[⟨Xad,[.one],[]⟩],ap1 gS⟩
theorem kE:Lk 1 iM:=ls wz aN
def kt(a0:List (Int))(a1:Int)(a2:List (Int))(a3:Int)(a4:Int)(a5:Int):Option (T02):=
bif(a3 != 1)then(some (0,3,()))else
let x0:=wk .i64 a4;
(eW a0 a1 a2 x0).bind λ(x1,x2,x3,_)=>
(bif(!x3)then(some (true,a3,a4,()))else
bif(decide (a5<0))then(some (true,a3,a4,()))else
(d7 x1).bind λx4=>
(dI a2 x4).bind λx5=>
let x6:=w64 (x5-x2);
some ((decide (a5>x6)),a3,a4,()):Option (T0b)).bind λ(x4,x5,x6,_)=>
bif x4 then(some (0,4,()))else
let x7:=wk .i64 x6;
some (x7,0,())
def wB:X.Cfg:=⟨E0,[io],[],[⟨6,0,qE,[(.normal,qS [zaa 6,Xaa 41] [(14,Uab)])]⟩]⟩
def qi:Ctr:=⟨167,68,[.agg yab,shU RI,.agg Uab,shU I64],[],[⟨zac,[.one,.one],[]⟩],ap6 kt⟩
theorem wi:Lk 2 qi:=ls wB (aC jQ aN)
def kX:T2D->Option (T2D⊕((Int×Unit)⊕(Int×ByteArray×Int×Int×Bool×T2q))):=λ(v0,v1,v2,v3,v4,v5,v6,v7,v8,v9,v10,v11,v12,v13,v14)=>
bif(decide (v3<v2))then((d7 v3).bind λx0=>
(wY v1 x0).bind λx1=>
(d7 v3).bind λx2=>
(dI v13 x2).bind λx3=>
(kM x1 x3.1).bind λ(x4,_)=>
bif(!x4)then(some (.inr (.inl (6,()))))else
let x5:=w64 (v3+1);
some (.inl (v0,v1,v2,x5,v4,v5,v6,v7,v8,v9,v10,v11,v12,v13,v14)))else
some (.inr (.inr (v0,v1,v2,v3,false,v4,v5,v6,v7,v8,v9,v10,v11,v12,v13,v14)))
def li(a0:LDIn)(a1:List (Int))(a2:List LI)(a3:List (Int))(a4:Int)(a5:LDCe)(a6:LDLn)(a7:LDTh)(a8:Int):Option (Int×Unit):=
(d7 a8).bind λx0=>
(dI a7 x0).bind λx1=>
let x2:=w64 (x1.2.2.1-1);
(d7 x2).bind λx3=>
(dI a0 x3).bind λx4=>
(jC x4.2.2.2.2).bind λ(x5,_)=>
let x6:=xN x5;
(match dU kX NN (x4.2.2.2.2,x5,x6,0,a0,a1,a2,a3,a4,a5,a6,a7,x1.1,x1.2.1,x1.2.2.1,x1.2.2.2.1,x1.2.2.2.2.1,x1.2.2.2.2.2.1,x1.2.2.2.2.2.2.1,x1.2.2.2.2.2.2.2,())with
|none=>none
|some (.inl (x7,_))=>
some (x7,())
|some (.inr (x7,x8,x9,ac,ae,af,ah,ai,aj,ak,am,an,ap,aq,av,_))=>
(gS x7).bind λ(aE,_)=>
bif(decide (aE>0))then((dI av 1).bind λaF=>
(dI av 2).bind λaG=>
let aH:=wk .i64 aG.2;
(kt aj ak ah aF.1 aF.2 aH).bind λ(aI,aJ,_)=>
bif(aJ != 0)then(some (6,()))else
(dI av 2).bind λaK=>
bif(decide (aK.2>16))then(some (6,()))else
(bif(x7==10)then((dI av 0).bind λaL=>
let aM:=wk .i64 aL.2;
let aO:=dM af.length;
some ((decide (aM>=aO)),()))else
bif(x7==12)then((dI av 0).bind λaL=>
let aM:=wk .i64 aL.2;
let aO:=dM af.length;
some ((decide (aM>=aO)),()))else
some (false,()):Option (Bool×Unit)).bind λ(aL,_)=>
bif aL then(some (6,()))else
some (0,()))else
(bif(x7==10)then((dI av 0).bind λaF=>
let aG:=wk .i64 aF.2;
let aH:=dM af.length;
some ((decide (aG>=aH)),()))else
bif(x7==12)then((dI av 0).bind λaF=>
let aG:=wk .i64 aF.2;
let aH:=dM af.length;
some ((decide (aG>=aH)),()))else
some (false,()):Option (Bool×Unit)).bind λ(aF,_)=>
bif aF then(some (6,()))else
some (0,()))
def yW:X.Cfg:=⟨E0,[lF,pf,iM,qi],[],[⟨6,0,qS [zaa 3,zaa 4,zaa 7,Uaa 8,sP 9 .str,Uaa 29,Uaa 30] [(8,uab),(10,yac),(16,Uae)],[(.ret,qS [Uaa 6] []),(.exit 0,qS [zaa 3,zaa 4,zaa 7,Uaa 8,sP 9 .str,Uaa 29,Uaa 30,Xaa 31] [(8,uab),(10,yac),(16,Uae)])]⟩,⟨19,1,qE,[(.normal,qS [Xaa 93] [])]⟩]⟩
def rz:Ctr:=⟨145,69,[.agg uab,.agg yac,shU I64],[],[⟨Xad,[.one],[]⟩],ap9 li⟩
theorem yq:Lk 3 rz:=ls yW (aC nL (aC sL (aC kE (aC wi aN))))
def kq(a0:Int)(a1:LDCe)(a2:Int)(a3:Int)(a4:Int)(a5:Int)(a6:Int)(a7:Int):Option (T1q):=
bif(dY 4 0 a1.length)then let x0:LDCe:=(List.append [] a1);
some (a0,x0,a2,a3,a4,a5,a6,a7,())else none
def wA:X.Cfg:=⟨E0,[],[],[]⟩
def qh:Ctr:=⟨168,70,[.agg Uae],[],[⟨uah,[.agg 8],[]⟩],ap8 kq⟩
theorem wh:Lk 1 qh:=ls wA aN
def lW(a0:Int)(a1:LDCe)(a2:Int)(a3:Int)(a4:Int)(a5:Int)(a6:Int)(a7:Int)(a8:Int)(a9:Int):Option (T1q):=
(kq a0 a1 a2 a3 a4 a5 a6 a7).bind λ(x0,x1,x2,x3,x4,x5,_)=>
some (4,x1,x2,x3,x4,x5,a8,a9,())
def CA:X.Cfg:=⟨E0,[qh],[],[]⟩
def qz:Ctr:=⟨146,71,[.agg Uae,shU I64,shU CW],[],[⟨uah,[.agg 8],[]⟩],ap10 lW⟩
theorem uK:Lk 2 qz:=ls CA (aC wh aN)
def gj(a0:Int):Option (Int×Unit):=
bif(decide (a0<0))then(some ((-1),()))else
bif(decide (a0>15))then(some ((-1),()))else
(jC a0).bind λ(x0,_)=>
let x1:=xN x0;
some (x1,())
def sm:X.Cfg:=⟨E0,[lF],[],[]⟩
def km:Ctr:=⟨147,72,Xad,[],[⟨Xad,[.one],[]⟩],ap1 gj⟩
theorem ne:Lk 2 km:=ls sm (aC nL aN)
def gD(a0:List (Int))(a1:Int)(a2:List (Int))(a3:Int)(a4:Int):Option (T0n):=
bif(a3==0)then(some (0,a4,0,0,()))else
bif(a3==2)then(let x0:Int:=(wk .u16 (a4-a1));
some (2,x0,0,0,()))else
let x0:=wk .i64 a4;
(eW a0 a1 a2 x0).bind λ(x1,x2,x3,_)=>
bif x3 then(some (1,0,x1,x2,()))else
let x4:=wk .i64 a4;
some (1,0,(-1),x4,())
def zl:X.Cfg:=⟨E0,[io],[],[]⟩
def lI:Ctr:=⟨25,73,[.agg yab,shU RI,.agg Uab],[],[⟨Zag,[.agg 4],[]⟩],ap5 gD⟩
theorem nO:Lk 2 lI:=ls zl (aC jQ aN)
def kO(a0:LDCe)(a1:LDLn)(a2:Int):Option (T02):=
let x0:=w64 (Int.tdiv a2 4);
let x1:=Int.tmod x0 4;
(d7 x1).bind λx2=>
(dI a1 x2).bind λx3=>
bif(x3.1==x0)then(let x4:Int:=(Int.tmod a2 4);
(d7 x4).bind λx5=>
(dI x3.2.2 x5).bind λx6=>
some (x6.1,x6.2,()))else
(d7 a2).bind λx4=>
(dI a0 x4).bind λx5=>
some (x5.1,x5.2,())
def Bc:X.Cfg:=⟨E0,[],[],[]⟩
def po:Ctr:=⟨26,74,[.agg zad,shU I64],[],[⟨Uab,[.agg 2],[]⟩],ap3 kO⟩
theorem sR:Lk 1 po:=ls Bc aN
def hU:T3e->Option (T3e⊕(Int×Int×T39)):=λ(v0,v1,v2,v3,v4,v5,v6,v7,v8,v9,v10,v11,v12,v13,v14,v15,v16,v17,v18,v19,v20,v21,v22,v23,v24,v25,v26,v27,v28,v29,v30,v31,v32,v33,v34,v35,v36,v37,v38,_)=>
bif(decide (v1<v0))then((d7 v1).bind λx0=>
(dI v24 x0).bind λx1=>
(gD v18 v19 v3 x1.1 x1.2).bind λ(x2,x3,x4,x5,_)=>
let x6:LDCn:=[(x2,(x3,(x4,x5)))];
bif(dY 24 v37.length x6.length)then let x7:LDCn:=(List.append v37 x6);
let x8:=w64 (v1+1);
some (.inl (v0,x8,v2,v3,v4,v5,v6,v7,v8,v9,v10,v11,v12,v13,v14,v15,v16,v17,v18,v19,v20,v21,v22,v23,v24,v25,v26,v27,v28,v29,v30,v31,v32,v33,v34,v35,v36,x7,v38,()))else none)else
some (.inr (v0,v1,false,v2,v3,v4,v5,v6,v7,v8,v9,v10,v11,v12,v13,v14,v15,v16,v17,v18,v19,v20,v21,v22,v23,v24,v25,v26,v27,v28,v29,v30,v31,v32,v33,v34,v35,v36,v37,v38,()))
def hJ:T3d->Option (T3d⊕T3h):=λ(v0,v1,v2,v3,v4,v5,v6,v7,v8,v9,v10,v11,v12,v13,v14,v15,v16,v17,v18,v19,v20,v21,v22,v23,v24,v25,v26,v27,v28,v29,v30,v31,v32,v33,v34,v35,v36,v37,v38,_)=>
bif(decide (v1<v0))then((dI v24 1).bind λx0=>
let x1:=wk .i64 x0.2;
let x2:=w64 (x1+v1);
(kO v20 v21 x2).bind λ(x3,x4,_)=>
(gD v18 v19 v3 x3 x4).bind λ(x5,x6,x7,x8,_)=>
let x9:LDCn:=[(x5,(x6,(x7,x8)))];
bif(dY 24 v38.length x9.length)then let ac:LDCn:=(List.append v38 x9);
let ae:=w64 (v1+1);
some (.inl (v0,ae,v2,v3,v4,v5,v6,v7,v8,v9,v10,v11,v12,v13,v14,v15,v16,v17,v18,v19,v20,v21,v22,v23,v24,v25,v26,v27,v28,v29,v30,v31,v32,v33,v34,v35,v36,v37,ac,()))else none)else
some (.inr (v0,v1,false,v2,v3,v4,v5,v6,v7,v8,v9,v10,v11,v12,v13,v14,v15,v16,v17,v18,v19,v20,v21,v22,v23,v24,v25,v26,v27,v28,v29,v30,v31,v32,v33,v34,v35,v36,v37,v38,()))
def kN(a0:LDIn)(a1:List (Int))(a2:List LI)(a3:List (Int))(a4:Int)(a5:LDCe)(a6:LDLn)(a7:LDTh)(a8:Int)(a9:Int):Option (LI×Int×LDCe×LDLn×LDTh×Int×Int×Int×Int×Int×Int×LDCn×LDCn×Int×Unit):=
(lj a0 a1 a2 a3 a4 a5 a6 a7 a8 a9).bind λ(x0,x1,x2,x3,x4,x5,x6,_)=>
bif(x6 != 0)then(some ([],0,[],[],[],0,0,0,0,0,0,[],[],x6,()))else
(d7 a8).bind λx7=>
(dI x4 x7).bind λx8=>
(dI x4 x7).bind λx9=>
(dI x4 x7).bind λac=>
(match(bif(x5==2)then(some (.inl ((),0,(),(),(),0,0,0,0,0,0,(),(),x0,x1,x2,x3,x4,a8,x5,x9.2.2.2.2.2.2.1,x9.2.2.2.1,x9.2.2.1,0,(),(),())))else
bif(x5==1)then((li a0 a1 a2 x0 x1 x2 x3 x4 a8).bind λ(ae,_)=>
bif(ae != 0)then((lW x9.1 ac.2.1 x9.2.2.1 x9.2.2.2.1 x9.2.2.2.2.1 x9.2.2.2.2.2.1 x9.2.2.2.2.2.2.1 x9.2.2.2.2.2.2.2 ae 0).bind λ(af,ah,ai,aj,ak,am,an,ap,_)=>
(d7 a8).bind λaq=>
(dI x4 aq).bind λav=>
(dI x4 aq).bind λax=>
let ay:=(List.modify x4 aq λe=>(af,(ah,(ai,(aj,(ak,(am,(an,ap))))))));
some (.inl ((),0,(),(),(),0,0,0,0,0,0,(),(),x0,x1,x2,x3,ay,a8,2,ae,x9.2.2.2.1,x9.2.2.1,0,(),(),())))else
let af:=w64 (x9.2.2.1-1);
(d7 af).bind λah=>
(dI a0 ah).bind λai=>
(gj ai.2.2.2.2).bind λ(aj,_)=>
(dU hU NN (aj,0,a0,a1,a2,(),0,(),(),(),0,0,0,0,0,0,(),(),x0,x1,x2,x3,x4,x9.1,ac.2.1,x9.2.2.1,x9.2.2.2.1,x9.2.2.2.2.1,x9.2.2.2.2.2.1,x9.2.2.2.2.2.2.1,x9.2.2.2.2.2.2.2,a8,x5,0,x9.2.2.2.1,x9.2.2.1,ai.2.2.2.2,[],(),())).bind λ(ak,am,an,ap,aq,av,ax,ay,az,aA,aB,aD,aE,aF,aG,aH,aI,aJ,aK,aL,aM,aO,aP,aQ,aR,aS,aT,aU,aV,aW,aY,aZ,ba,bc,bd,be,bf,bg,bh,bi,_)=>
(gS bg).bind λ(bj,_)=>
bif(bj==1)then((dI aS 2).bind λbk=>
let bl:=wk .i64 bk.2;
(dU hJ NN (bl,0,ap,aq,av,ax,ay,az,aA,aB,aD,aE,aF,aG,aH,aI,aJ,aK,aL,aM,aO,aP,aQ,aR,aS,aT,aU,aV,aW,aY,aZ,ba,bc,bd,be,bf,bg,bh,[],())).bind λ(bm)=>
some (.inr (.inl (bm))))else
some (.inr (.inr (.inl (false,ap,aq,av,ax,ay,az,aA,aB,aD,aE,aF,aG,aH,aI,aJ,aK,aL,aM,aO,aP,aQ,aR,aS,aT,aU,aV,aW,aY,aZ,ba,bc,bd,be,bf,bg,bh,bi,())))))else
some (.inr (.inr (.inr (a8,false,a0,a1,a2,(),0,(),(),(),0,0,0,0,0,0,(),(),x0,x1,x2,x3,x4,x9.1,ac.2.1,x9.2.2.1,x9.2.2.2.1,x9.2.2.2.2.1,x9.2.2.2.2.2.1,x9.2.2.2.2.2.2.1,x9.2.2.2.2.2.2.2,a8,x5,0,x9.2.2.2.1,x9.2.2.1,0,(),(),())))):Option ((Unit×Int×Unit×Unit×Unit×Int×Int×Int×Int×Int×Int×Unit×Unit×LI×Int×LDCe×LDLn×LDTh×T1l)⊕(T3h⊕(T39⊕(Int×Bool×LDIn×LI×LLI×Unit×Int×Unit×Unit×Unit×Int×Int×Int×Int×Int×Int×Unit×Unit×LI×Int×LDCe×LDLn×LDTh×Int×LDCe×Int×Int×Int×Int×Int×Int×T1l)))))with
|none=>none
|some (.inl (ae,af,ah,ai,aj,ak,am,an,ap,aq,av,ax,ay,az,aA,aB,aD,aE,aF,aG,aH,aI,aJ,aK,aL,aM,_))=>
some (az,aA,aB,aD,aE,aF,aG,aH,aI,aJ,aK,[],[],0,())
|some (.inr (.inl (ae,af,ah,ai,aj,ak,am,an,ap,aq,av,ax,ay,az,aA,aB,aD,aE,aF,aG,aH,aI,aJ,aK,aL,aM,aO,aP,aQ,aR,aS,aT,aU,aV,aW,aY,aZ,ba,bc,bd,_)))=>
some (aG,aH,aI,aJ,aK,aU,aV,aW,aY,aZ,ba,bc,bd,0,())
|some (.inr (.inr (.inl (ae,af,ah,ai,aj,ak,am,an,ap,aq,av,ax,ay,az,aA,aB,aD,aE,aF,aG,aH,aI,aJ,aK,aL,aM,aO,aP,aQ,aR,aS,aT,aU,aV,aW,aY,aZ,ba,_))))=>
some (aE,aF,aG,aH,aI,aS,aT,aU,aV,aW,aY,aZ,[],0,())
|some (.inr (.inr (.inr (ae,af,ah,ai,aj,ak,am,an,ap,aq,av,ax,ay,az,aA,aB,aD,aE,aF,aG,aH,aI,aJ,aK,aL,aM,aO,aP,aQ,aR,aS,aT,aU,aV,aW,aY,aZ,ba,bc,_))))=>
some (aF,aG,aH,aI,aJ,aT,aU,aV,aW,aY,aZ,[],[],0,()))
def A4:X.Cfg:=⟨E0,[rA,rz,qz,km,lI,iM,po],[],[⟨19,0,qS [zaa 4,zaa 8,zaa 9,zaa 11,zaa 14,zaa 15,Uaa 80,Uaa 81] [(10,uab),(18,Zab),(20,uag),(24,Xag),(30,Uae),(32,Zai)],[(.exit 1,qS [zaa 4,zaa 8,zaa 9,zaa 11,zaa 14,zaa 15,Uaa 80,Uaa 81,Xaa 82] [(10,uab),(18,Zab),(20,uag),(24,Xag),(30,Uae),(32,Zai)])]⟩,⟨26,1,qS [zaa 4,zaa 8,zaa 9,zaa 11,zaa 14,zaa 15,Uaa 109,Uaa 110] [(10,uab),(18,Zab),(20,uag),(24,Xag),(30,Uae),(32,uaj)],[(.exit 3,qS [zaa 4,zaa 8,zaa 9,zaa 11,zaa 14,zaa 15,Uaa 109,Uaa 110,Xaa 111] [(10,uab),(18,Zab),(20,uag),(24,Xag),(30,Uae),(32,uaj)])]⟩,⟨7,2,qE,[(.normal,qS [zaa 8,zaa 9,zaa 11,zaa 15] [(18,Zab),(20,uag),(24,Xag),(32,uag)]),(.normal,qS [zaa 4,zaa 8,zaa 9,zaa 11,zaa 14,zaa 15,Uaa 109,Uaa 110,Xaa 111] [(10,uab),(18,Zab),(20,uag),(24,Xag),(30,Uae),(32,uaj)]),(.normal,qS [zaa 4,zaa 8,zaa 9,zaa 11,zaa 14,zaa 15,Xaa 103] [(10,uab),(18,Zab),(20,uag),(24,Xag),(30,Uae),(32,Zai)]),(.normal,qS [Uaa 2,zaa 4,zaa 8,zaa 9,zaa 11,zaa 14,zaa 15,Xaa 51] [(10,uab),(18,Zab),(20,uag),(24,Xag),(30,Uae),(32,uag)])]⟩]⟩
def tn:Ctr:=⟨110,75,[.agg uab,.agg yac,shU I64,shU I64],[],[⟨uL [RI,CW,eZ,fr,fN,I64,I64,I64,I64,I64,I64,d9,d9,I64],[.agg 5,.agg 8,.one],[]⟩],ap10 kN⟩
theorem AB:Lk 6 tn:=ls A4 (aC yr (aC yq (aC uK (aC ne (aC nO (aC kE (aC sR aN)))))))
def g9:T1L->Option (T1L⊕T1V):=λ(v0,v1,v2,v3,v4,v5,v6,v7,v8,_)=>
bif(decide (v2<v1))then((d7 v2).bind λx0=>
(dI v0 x0).bind λx1=>
bif(dY 8 0 x1.length)then let x2:List (Int):=(List.append [] x1);
bif(dY 24 v8.length (List.length [x2]))then let x3:List LI:=(List.append v8 [x2]);
let x4:=w64 (v2+1);
some (.inl (v0,v1,x4,v3,v4,v5,v6,v7,x3,()))else none else none)else
some (.inr (v0,v1,v2,false,v3,v4,v5,v6,v7,v8,()))
def kK(a0:List (Int))(a1:List LI):Option (T07):=
bif(dY 8 0 a0.length)then let x0:List (Int):=(List.append [] a0);
let x1:=dM a1.length;
(dU g9 NN (a1,x1,0,a0,a1,(),(),x0,[],())).bind λ(x2,x3,x4,x5,x6,x7,x8,x9,ac)=>
some (ac)else none
def AZ:X.Cfg:=⟨E0,[],[(21,(uaa I64)),(22,(uaa I64))],[(lx 4 0 [zaa 2,zaa 3,sP 11 (yaa RI),Uaa 12,Uaa 13] [(4,uaf),(6,Xab),(8,zae)] 14)]⟩
def mP:Ctr:=⟨169,76,[.agg uaf],[],[⟨zae,[.agg 2],[]⟩],ap2 kK⟩
theorem oU:Lk 1 mP:=ls AZ aN
def jd(a0:List (Int))(a1:List LI)(a2:Int)(a3:Int):Option (LI×LLI×T01):=
(kK a0 a1).bind λ(x0,x1,_)=>
(bif(decide (a2<0))then(some (a2,true,(),(),x0,x1,()))else
bif(decide (a2>=4))then(some (a2,true,(),(),x0,x1,()))else
(d7 a2).bind λx2=>
(dI a0 x2).bind λx3=>
some (a2,(x3 != a3),(),(),x0,x1,()):Option (T0Q)).bind λ(x2,x3,x4,x5,x6,x7,_)=>
bif x3 then(some (x6,x7,(-1),false,()))else
(d7 x2).bind λx8=>
(dI x6 x8).bind λx9=>
(dI x6 x8).bind λac=>
let ae:=List.modify x6 x8 λe=>(-1);
(d7 x2).bind λaf=>
(dI x7 af).bind λah=>
(dI x7 af).bind λai=>
(dI x7 af).bind λaj=>
let ak:=dM aj.length;
bif(decide (ak>0))then((d7 x2).bind λam=>
(dI x7 am).bind λan=>
(dI x7 am).bind λap=>
(dI x7 am).bind λaq=>
(dI aq 0).bind λav=>
(dI x7 am).bind λax=>
(dI ax 0).bind λay=>
(d7 x2).bind λaz=>
(dI ae az).bind λaA=>
(dI ae az).bind λaB=>
let aD:=List.modify ae az λe=>ay;
(d7 x2).bind λaE=>
(dI x7 aE).bind λaF=>
(dI x7 aE).bind λaG=>
(dI x7 aE).bind λaH=>
bif(j0 1 aH.length aH.length)then(dI x7 aE).bind λaI=>
(d7 x2).bind λaJ=>
(dI x7 aJ).bind λaK=>
(dI x7 aE).bind λaL=>
(dI x7 aJ).bind λaM=>
let aO:=(List.modify x7 aJ λe=>(mU aL 1 (Nat.sub aH.length 1)));
(d7 x2).bind λaP=>
(dI aD aP).bind λaQ=>
some (aD,aO,aQ,true,())else none)else
(d7 x2).bind λam=>
(dI ae am).bind λan=>
some (ae,x7,an,true,())
def AX:X.Cfg:=⟨E0,[mP],[],[⟨3,0,qE,[(.normal,qS [Uaa 1,zaa 6,zaa 9,Xaa 26] [(14,Xab),(20,zae)])]⟩]⟩
def mO:Ctr:=⟨149,77,[.agg uaf,shU I64,shU I64],[],[⟨uL [RI,(yaa RI),I64,.bool],[.agg 2,.one,.one],[]⟩],ap4 jd⟩
theorem oT:Lk 2 mO:=ls AX (aC oU aN)
def dZ(a0:Int)(a1:Bool):Option (T18):=
(bif(!a1)then(some (65535,0,0,0,0,(),0,false,()))else
some (a0,0,0,0,0,(),0,false,()):Option (Int×T18)).bind λ(x0,_)=>
let x8:=wk .u16 x0;
some (0,x8,0,0,(),(-1),false,())
def yJ:X.Cfg:=⟨E0,[],[],[⟨1,0,qE,[(.normal,qS [Uaa 0,zaa 4] [(10,uae)])]⟩]⟩
def jV:Ctr:=⟨170,78,uL [I64,.bool],[],[⟨uae,[.agg 7],[]⟩],ap2 dZ⟩
theorem lB:Lk 1 jV:=ls yJ aN
def lV:T2i->Option (T2i⊕((Int×T07)⊕(Int×Int×LLI×Int×Int×LI×T1w))):=λ(v0,v1,v2,v3,v4,v5,v6,v7,v8,v9,v10,v11,v12)=>
bif(decide (v7<v6))then((d7 v7).bind λx0=>
(dI v5 x0).bind λx1=>
bif(x1==v1)then(some (.inr (.inl (2,v12))))else
let x2:=w64 (v7+1);
some (.inl (v0,v1,v2,v3,v4,v5,v6,x2,v8,v9,v10,v11,v12)))else
some (.inr (.inr (v0,v1,v2,v3,v4,v5,v6,v7,false,v8,v9,v10,v11,v12)))
def lU:T1Y->Option (T1Y⊕((Int×T07)⊕(Int×Int×T1V))):=λ(v0,v1,v2,v3,v4,v5)=>
bif(decide (v4<v3))then((d7 v4).bind λx0=>
(dI v2 x0).bind λx1=>
let x2:=dM x1.length;
(match dU lV NN (v0,v1,v2,v3,v4,x1,x2,0,v5)with
|none=>none
|some (.inl (x3,x4,x5,_))=>
some (.inr (.inl (x3,x4,x5,())))
|some (.inr (x3,x4,x5,x6,x7,x8,x9,ac,ae,af))=>
let an:=w64 (x7+1);
some (.inl (x3,x4,x5,x6,an,af))))else
some (.inr (.inr (v0,v1,v2,v3,v4,false,v5)))
def mw(a0:List (Int))(a1:List LI)(a2:Int)(a3:Int):Option (LI×LLI×Int×Unit):=
(kK a0 a1).bind λ(x0,x1,_)=>
(bif(decide (a2<0))then(some (a2,a3,true,a0,a1,(),(),x0,x1,()))else
bif(decide (a2>=4))then(some (a2,a3,true,a0,a1,(),(),x0,x1,()))else
(d7 a2).bind λx2=>
(dI a0 x2).bind λx3=>
some (a2,a3,(x3==a3),a0,a1,(),(),x0,x1,()):Option (T1w)).bind λ(x2,x3,x4,x5,x6,x7,x8,x9,ac,_)=>
bif x4 then(some (x9,ac,2,()))else
let ae:=dM x6.length;
(match dU lU NN (x2,x3,x6,ae,0,x5,x6,x7,x8,x9,ac,())with
|none=>none
|some (.inl (af,ah,ai,_))=>
some (ah,ai,af,())
|some (.inr (af,ah,ai,aj,ak,am,an,ap,aq,av,ax,ay,_))=>
(d7 af).bind λaz=>
(dI an az).bind λaA=>
bif(aA==(-1))then((d7 af).bind λaB=>
(dI ax aB).bind λaD=>
(dI ax aB).bind λaE=>
let aF:=List.modify ax aB λe=>ah;
some (aF,ay,0,()))else
(d7 af).bind λaB=>
(dI ay aB).bind λaD=>
(dI ay aB).bind λaE=>
(dI ay aB).bind λaF=>
bif(dY 8 aF.length (List.length [ah]))then let aG:List (Int):=(List.append aF [ah]);
(d7 af).bind λaH=>
(dI ay aH).bind λaI=>
(dI ay aH).bind λaJ=>
bif(Nat.beq aH aB)then let aK:List LI:=(List.modify ay aH λe=>aG);
some (ax,aK,1,())else none else none)
def AW:X.Cfg:=⟨E0,[mP],[],[⟨3,0,qE,[(.normal,qS [Uaa 1,Uaa 2,zaa 3,zaa 6,zaa 8,Xaa 29] [(8,uaf),(14,Xab),(18,zae)])]⟩,⟨13,1,qS [Uaa 1,Uaa 2,zaa 3,zaa 6,zaa 8,sP 32 (yaa RI),Uaa 33,Uaa 34,sP 38 RI,Uaa 39,Uaa 40] [(8,uaf),(14,Xab),(18,zae)],[(.ret,qS [zaa 6,Uaa 7] [(14,zae)]),(.exit 2,qS [Uaa 1,Uaa 2,zaa 3,zaa 6,zaa 8,sP 32 (yaa RI),Uaa 33,Uaa 34,sP 38 RI,Uaa 39,Uaa 40,Xaa 41] [(8,uaf),(14,Xab),(18,zae)])]⟩,⟨7,2,qS [Uaa 1,Uaa 2,zaa 3,zaa 6,zaa 8,sP 32 (yaa RI),Uaa 33,Uaa 34] [(8,uaf),(14,Xab),(18,zae)],[(.ret,qS [zaa 6,Uaa 7] [(14,zae)]),(.exit 0,qS [Uaa 1,Uaa 2,zaa 3,zaa 6,zaa 8,sP 32 (yaa RI),Uaa 33,Uaa 34,Xaa 35] [(8,uaf),(14,Xab),(18,zae)])]⟩]⟩
def tg:Ctr:=⟨171,79,[.agg uaf,shU I64,shU I64],[],[⟨uL [(uaa I64),(uaa (uaa I64)),I64],[.agg 2,.one],[]⟩],ap4 mw⟩
theorem Az:Lk 2 tg:=ls AW (aC oU aN)
def jD(a0:Int)(a1:Int)(a2:Int)(a3:Int)(a4:Int)(a5:Int)(a6:LDCn)(a7:LDCn):Option (Bool×Unit):=
bif(decide (a0>=0))then(bif(decide (a0<4))then(bif(decide (a1>=0))then(bif(decide (a1<=3))then(bif(decide (a2>=0))then(bif(decide (a2<=6))then(bif(decide (a3>=0))then(bif(decide (a3<=1099511627776))then(bif(decide (a4>=0))then(bif(decide (a4<=255))then(bif(decide (a5>=0))then(bif(decide (a5<=15))then((fa a6 3).bind λ(x0,_)=>
bif x0 then((fa a7 16).bind λ(x1,_)=>
some (x1,()))else
some (false,()))else
some (false,()))else
some (false,()))else
some (false,()))else
some (false,()))else
some (false,()))else
some (false,()))else
some (false,()))else
some (false,()))else
some (false,()))else
some (false,()))else
some (false,()))else
some (false,())
def yU:X.Cfg:=⟨E0,[fW],[],[]⟩
def nV:Ctr:=⟨173,80,[.agg Zac],[],[⟨uac,[.one],[]⟩],ap8 jD⟩
theorem qX:Lk 3 nV:=ls yU (aC gI aN)
def oB(a0:Int):Option (Bool×Unit):=
bif(decide (a0>=1))then(bif(decide (a0<=7))then(some (true,()))else
bif(a0==13)then(some (true,()))else
some ((a0==14),()))else
bif(a0==13)then(some (true,()))else
some ((a0==14),())
def AO:X.Cfg:=⟨E0,[],[],[]⟩
def s7:Ctr:=⟨185,81,Xad,[],[⟨uac,[.one],[]⟩],ap1 oB⟩
theorem Au:Lk 1 s7:=ls AO aN
def gN:T25->Option (T25⊕((Bool×Unit)⊕(ByteArray×LDCn×Int×Int×Bool×T1k))):=λ(v0,v1,v2,v3,v4)=>
bif(decide (v3<v2))then((d7 v3).bind λx0=>
(dI v1 x0).bind λx1=>
(d7 v3).bind λx2=>
(wY v0 x2).bind λx3=>
(kM x3 x1.1).bind λ(x4,_)=>
bif(!x4)then(some (.inr (.inl (false,()))))else
let x5:=w64 (v3+1);
some (.inl (v0,v1,v2,x5,v4)))else
some (.inr (.inr (v0,v1,v2,v3,false,v4)))
def lh(a0:Int)(a1:Int)(a2:Int)(a3:Int)(a4:Int)(a5:Int)(a6:LDCn)(a7:LDCn):Option (Bool×Unit):=
(jC a5).bind λ(x0,_)=>
let x1:=xN x0;
let x2:=dM a6.length;
bif(x1 != x2)then(some (false,()))else
let x3:=dM a6.length;
(match dU gN NN (x0,a6,x3,0,a0,a1,a2,a3,a4,a5,a6,a7,())with
|none=>none
|some (.inl (x4,_))=>
some (x4,())
|some (.inr (x4,_))=>
some (true,()))
def yV:X.Cfg:=⟨E0,[lF,pf],[],[⟨7,0,qS [sP 3 .str,sP 16 d9,Uaa 17,Uaa 18] [(4,Zac)],[(.ret,qS [Xaa 2] []),(.exit 0,qS [sP 3 .str,sP 16 d9,Uaa 17,Uaa 18,Xaa 19] [(4,Zac)])]⟩]⟩
def ry:Ctr:=⟨186,82,[.agg Zac],[],[⟨uac,[.one],[]⟩],ap8 lh⟩
theorem yp:Lk 2 ry:=ls yV (aC nL (aC sL aN))
def gv(a0:List LDCn)(a1:LDOp)(a2:Int):Option (Bool×Unit):=
bif(decide (a2>=0))then(let x0:Int:=(dM a1.length);
bif(decide (a2<x0))then((d7 a2).bind λx1=>
(dI a1 x1).bind λx2=>
some ((x2.1 != (-1)),()))else
some (false,()))else
some (false,())
def AR:X.Cfg:=⟨E0,[],[],[]⟩
def kT:Ctr:=⟨200,83,[.agg uad,shU I64],[],[⟨uac,[.one],[]⟩],ap3 gv⟩
theorem mJ:Lk 1 kT:=ls AR aN
def oe:T21->Option (T21⊕(LDCn×Nat×Int×Int×Int×Bool×T14)):=λ(v0,v1,v2,v3,v4,v5,v6,v7,v8,v9,v10,_)=>
bif(decide (v4<v3))then(((dI v9 v1).bind λx0=>
let x1:=w64 (x0.2.1+v4);
let x2:=dM v10.length;
bif(decide (x1<x2))then((dI v9 v1).bind λx3=>
let x4:=w64 (x3.2.1+v4);
(d7 v4).bind λx5=>
(dI v0 x5).bind λx6=>
(d7 x4).bind λx7=>
(dI v10 x7).bind λx8=>
(dI v10 x7).bind λx9=>
let ac:=(List.modify v10 x7 λe=>(x6.1,(x6.2.1,(x6.2.2.1,x6.2.2.2))));
some (v0,v1,v2,v3,v4,v5,v6,v7,v8,v9,ac,()))else
(d7 v4).bind λx3=>
(dI v0 x3).bind λx4=>
let x5:LDCn:=[(x4.1,(x4.2.1,(x4.2.2.1,x4.2.2.2)))];
bif(dY 24 v10.length x5.length)then let x6:LDCn:=(List.append v10 x5);
some (v0,v1,v2,v3,v4,v5,v6,v7,v8,v9,x6,())else none:Option (T21)).bind λ(x0,x1,x2,x3,x4,x5,x6,x7,x8,x9,ac,_)=>
let ae:=w64 (x4+1);
some (.inl (x0,x1,x2,x3,ae,x5,x6,x7,x8,x9,ac,())))else
some (.inr (v0,v1,v2,v3,v4,false,v5,v6,v7,v8,v9,v10,()))
def lb(a0:List LDCn)(a1:LDOp)(a2:Int)(a3:LDCn):Option (LLCn×LDOp×T01):=
(fQ a0 a1).bind λ(x0,x1,_)=>
((gv a0 a1 a2).bind λ(x2,_)=>
bif(!x2)then(some (a2,a3,true,(),(),x0,x1,()))else
(d7 a2).bind λx3=>
(dI a1 x3).bind λx4=>
bif(!x4.2.2)then(some (a2,a3,true,(),(),x0,x1,()))else
let x5:=dM a3.length;
(fa a3 x5).bind λ(x6,_)=>
some (a2,a3,(!x6),(),(),x0,x1,()):Option (Int×LDCn×T0A)).bind λ(x2,x3,x4,x5,x6,x7,x8,_)=>
bif x4 then(some (x7,x8,0,false,()))else
(d7 x2).bind λx9=>
(dI x8 x9).bind λac=>
let ae:=dM x3.length;
(dI x8 x9).bind λaf=>
let ah:=w64 (64-af.2.1);
let ai:=mmR false ae ah;
(dI x8 x9).bind λaj=>
(d7 aj.1).bind λak=>
(dI x7 ak).bind λam=>
(dI x7 ak).bind λan=>
(dI x7 ak).bind λap=>
(dU oe NN (x3,x9,ai,ai,0,x5,x6,x7,ak,x8,ap,())).bind λ(aq,av,ax,ay,az,aA,aB,aD,aE,aF,aG,aH,_)=>
(dI aG av).bind λaI=>
(d7 aI.1).bind λaJ=>
(dI aE aJ).bind λaK=>
(dI aE aJ).bind λaL=>
bif(Nat.beq aJ aF)then let aM:List LDCn:=(List.modify aE aJ λe=>aH);
(dI aG av).bind λaO=>
let aP:=w64 (aO.2.1+ax);
(dI aG av).bind λaQ=>
let aR:=(List.modify aG av λe=>(e.1,(aP,e.2.2)));
some (aM,aR,ax,true,())else none
def yM:X.Cfg:=⟨E0,[ij,kT,fW],[],[⟨3,0,qE,[(.normal,qS [Uaa 1,sP 2 d9,zaa 6,zaa 9,Xaa 35] [(14,Xab),(20,Xae)])]⟩,⟨13,1,qE,[(.normal,(qS [sP 2 d9,zaa 6,zaa 9,(10,.ptr ⟨20,1,[((),(3,0))]⟩ [0,0]),Uaa 11,Zaa 12 27,Uaa 57,Uaa 58] [(14,Xab),(20,[.gap (uaa KCn) () () 0,shU (uaa KOp)]),(27,yag)]))]⟩,(lx 10 2 [sP 2 d9,zaa 6,zaa 9,(10,.ptr ⟨20,1,[((),(3,0))]⟩ [0,0]),Uaa 11,Zaa 12 27,Uaa 57,Uaa 58] [(14,Xab),(20,[.gap (uaa KCn) () () 0,shU (uaa KOp)]),(27,yag)] 59)]⟩
def rp:Ctr:=⟨187,84,[.agg uad,shU I64,shU d9],[],[⟨uL [(uaa (uaa KCn)),(uaa KOp),I64,.bool],[.agg 2,.one,.one],[]⟩],ap4 lb⟩
theorem yk:Lk 3 rp:=ls yM (aC ji (aC mJ (aC gI aN)))
def mt(a0:List LDCn)(a1:LDOp)(a2:Int)(a3:Int):Option ((LLCn×LDOp×Unit×Bool×Unit)⊕(LLCn×LDOp×LDCn×Bool×Unit)):=
(fQ a0 a1).bind λ(x0,x1,_)=>
((gv a0 a1 a2).bind λ(x2,_)=>
bif(!x2)then(some (a2,a3,true,a0,a1,(),(),x0,x1,()))else
bif(decide (a3<0))then(some (a2,a3,true,a0,a1,(),(),x0,x1,()))else
(d7 a2).bind λx3=>
(dI a1 x3).bind λx4=>
some (a2,a3,x4.2.2,a0,a1,(),(),x0,x1,()):Option (T1x)).bind λ(x2,x3,x4,x5,x6,x7,x8,x9,ac,_)=>
bif x4 then(some (.inl (x9,ac,(),false,())))else
(d7 x2).bind λae=>
(dI ac ae).bind λaf=>
(dI ac ae).bind λah=>
(d7 ah.1).bind λai=>
(dI x9 ai).bind λaj=>
(dI x9 ai).bind λak=>
(dI x9 ai).bind λam=>
let an:=dM am.length;
(dI ac ae).bind λap=>
let aq:=w64 (an-ap.2.1);
let av:=mmR false x3 aq;
(dI ac ae).bind λax=>
(dI ac ae).bind λay=>
let az:=w64 (ay.2.1+av);
(d7 ax.2.1).bind λaA=>
(d7 az).bind λaB=>
bif(j0 aA aB am.length)then let aD:LDCn:=(mU am aA (Nat.sub aB aA));
bif(dY 24 0 aD.length)then let aE:LDCn:=(List.append [] aD);
(dI ac ae).bind λaF=>
let aG:=w64 (aF.2.1+av);
(dI ac ae).bind λaH=>
let aI:=(List.modify ac ae λe=>(e.1,(aG,e.2.2)));
some (.inr (x9,aI,aE,true,()))else none else none
def AT:X.Cfg:=⟨E0,[ij,kT],[],[⟨3,0,qE,[(.normal,qS [Uaa 1,Uaa 2,zaa 6,zaa 9,Xaa 31] [(8,uad),(14,Xab),(20,Xae)])]⟩]⟩
def td:Ctr:=⟨188,85,[.agg uad,shU I64,shU I64],[],[⟨uL [(uaa (uaa KCn)),(uaa KOp),N1,.bool],[.agg 2,.one,.one],[]⟩,⟨uL [(uaa d9),(uaa KOp),(uaa KCn),.bool],[.agg 2,.one,.one],[]⟩],ap4 mt⟩
theorem Ax:Lk 2 td:=ls AT (aC ji (aC mJ aN))
def oD:T1A->Option (T1A⊕(Int×T1x)):=λ(v0,v1,v2,v3,v4,v5)=>
let x0:=dM v4.length;
bif(decide (v2<x0))then((d7 v2).bind λx1=>
(dI v4 x1).bind λx2=>
bif(x2.1 != (-1))then(let x3:Int:=(w64 (v2+1));
some (.inl (v0,v1,x3,v3,v4,v5)))else
some (.inr (v0,v1,v2,false,v3,v4,v5)))else
some (.inr (v0,v1,v2,false,v3,v4,v5))
def oC:T1z->Option (T1z⊕(Int×Int×T1i)):=λ(v0,v1,v2,v3,v4,v5,v6,v7,v8,_)=>
bif(decide (v4<v3))then(((d7 v4).bind λx0=>
(dI v8 x0).bind λx1=>
(dI v8 x0).bind λx2=>
bif(x2.1==v0)then((d7 v4).bind λx3=>
(dI v8 x3).bind λx4=>
(dI v8 x3).bind λx5=>
let x6:=(List.modify v8 x3 λe=>(e.1,(0,e.2.2)));
some (v0,v1,v2,v3,v4,v5,v6,v7,x6,()))else
some (v0,v1,v2,v3,v4,v5,v6,v7,v8,()):Option (T1z)).bind λ(x0,x1,x2,x3,x4,x5,x6,x7)=>
let x9:=w64 (x4+1);
some (.inl (x0,x1,x2,x3,x9,x5,x6,x7)))else
some (.inr (v0,v1,v2,v3,v4,false,v5,v6,v7,v8,()))
def mu(a0:List LDCn)(a1:LDOp)(a2:Int)(a3:Int):Option (LLCn×LDOp×Int×Unit):=
(fQ a0 a1).bind λ(x0,x1,_)=>
(dU oD NN (a2,a3,0,a0,a1,(),(),x0,x1,())).bind λ(x2,x3,x4,x5,x6,x7,x8)=>
(bif(decide (x2<0))then(some (x2,x3,x4,true,x8))else
let af:=dM x6.length;
bif(decide (x2>=af))then(some (x2,x3,x4,true,x8))else
bif(decide (x3<0))then(some (x2,x3,x4,true,x8))else
bif(decide (x3>2))then(some (x2,x3,x4,true,x8))else
let ah:=dM x7.length;
some (x2,x3,x4,(x4==ah),x8):Option (T1i)).bind λ(af,ah,ai,aj,ak,am,an,ap,_)=>
bif aj then(some (an,ap,(-1),()))else
bif(ah==1)then((d7 af).bind λaq=>
(dI an aq).bind λav=>
(dI an aq).bind λax=>
let ay:=List.modify an aq λe=>[];
let az:=dM ap.length;
(dU oC NN (af,ah,ai,az,0,ak,am,ay,ap,())).bind λ(aA,aB,aD,aE,aF,aG,aH,aI,aJ,aK,_)=>
(d7 aD).bind λaL=>
(dI aK aL).bind λaM=>
(dI aK aL).bind λaO=>
let aP:=(List.modify aK aL λe=>(aA,(0,(decide (aB>0)))));
(bif(aB==2)then((d7 aA).bind λaQ=>
(dI aJ aQ).bind λaR=>
(dI aJ aQ).bind λaS=>
(dI aJ aQ).bind λaT=>
let aU:=dM aT.length;
(d7 aD).bind λaV=>
(dI aP aV).bind λaW=>
(dI aP aV).bind λaY=>
let aZ:=(List.modify aP aV λe=>(e.1,(aU,e.2.2)));
some (aD,aH,aI,aJ,aZ,()))else
some (aD,aH,aI,aJ,aP,()):Option (T0F)).bind λ(aQ,aR,aS,aT,aU,_)=>
some (aT,aU,aQ,()))else
(d7 ai).bind λaq=>
(dI ap aq).bind λav=>
(dI ap aq).bind λax=>
let ay:=(List.modify ap aq λe=>(af,(0,(decide (ah>0)))));
(bif(ah==2)then((d7 af).bind λaz=>
(dI an az).bind λaA=>
(dI an az).bind λaB=>
(dI an az).bind λaD=>
let aE:=dM aD.length;
(d7 ai).bind λaF=>
(dI ay aF).bind λaG=>
(dI ay aF).bind λaH=>
let aI:=(List.modify ay aF λe=>(e.1,(aE,e.2.2)));
some (ai,ak,am,an,aI,()))else
some (ai,ak,am,an,ay,()):Option (T0F)).bind λ(az,aA,aB,aD,aE,_)=>
some (aD,aE,az,())
def AU:X.Cfg:=⟨E0,[ij],[],[(lx 4 0 [Uaa 1,Uaa 2,zaa 3,zaa 6,zaa 8,Uaa 9] [(8,uad),(14,Xab),(18,Xae)] 26),⟨8,1,qE,[(.normal,qS [Uaa 1,Uaa 2,zaa 6,zaa 8,Uaa 9,Xaa 52] [(14,Xab),(18,Xae)])]⟩,⟨17,2,qE,[(.normal,qS [Uaa 1,Uaa 2,zaa 6,zaa 8,Uaa 9,Uaa 62,Uaa 63] [(14,Xab),(18,Xae)])]⟩,⟨14,3,qS [Uaa 1,Uaa 2,zaa 6,zaa 8,Uaa 9,Uaa 62,Uaa 63] [(14,Xab),(18,Xae)],[(.exit 2,qS [Uaa 1,Uaa 2,zaa 6,zaa 8,Uaa 9,Uaa 62,Uaa 63,Xaa 64] [(14,Xab),(18,Xae)])]⟩,⟨21,4,qE,[(.normal,qS [zaa 6,zaa 8,Uaa 9] [(14,Xab),(18,Xae)])]⟩]⟩
def te:Ctr:=⟨189,86,[.agg uad,shU I64,shU I64],[],[⟨zaj,[.agg 2,.one],[]⟩],ap4 mu⟩
theorem Ay:Lk 2 te:=ls AU (aC ji aN)
def lc(a0:List LDCn)(a1:LDOp)(a2:Int):Option (LLCn×LDOp×Bool×Unit):=
(fQ a0 a1).bind λ(x0,x1,_)=>
(gv a0 a1 a2).bind λ(x2,_)=>
bif(!x2)then(some (x0,x1,false,()))else
(d7 a2).bind λx3=>
(dI x1 x3).bind λx4=>
(dI x1 x3).bind λx5=>
let x6:=(List.modify x1 x3 λe=>((-1),(0,false)));
some (x0,x6,true,())
def yO:X.Cfg:=⟨E0,[ij,kT],[],[]⟩
def rq:Ctr:=⟨190,87,[.agg uad,shU I64],[],[⟨Zaj,[.agg 2,.one],[]⟩],ap3 lc⟩
theorem yl:Lk 2 rq:=ls yO (aC ji (aC mJ aN))
def ms(a0:List LDCn)(a1:LDOp)(a2:Int)(a3:Int):Option (LLCn×LDOp×Bool×Unit):=
(fQ a0 a1).bind λ(x0,x1,_)=>
((gv a0 a1 a2).bind λ(x2,_)=>
bif(!x2)then(some (a2,a3,true,(),(),x0,x1,()))else
bif(decide (a3<0))then(some (a2,a3,true,(),(),x0,x1,()))else
(d7 a2).bind λx3=>
(dI a1 x3).bind λx4=>
(d7 x4.1).bind λx5=>
(dI a0 x5).bind λx6=>
let x7:=dM x6.length;
some (a2,a3,(decide (a3>x7)),(),(),x0,x1,()):Option (T16)).bind λ(x2,x3,x4,x5,x6,x7,x8,_)=>
bif x4 then(some (x7,x8,false,()))else
(d7 x2).bind λx9=>
(dI x8 x9).bind λac=>
(dI x8 x9).bind λae=>
let af:=(List.modify x8 x9 λe=>(e.1,(x3,e.2.2)));
some (x7,af,true,())
def AS:X.Cfg:=⟨E0,[ij,kT],[],[⟨3,0,qE,[(.normal,qS [Uaa 1,Uaa 2,zaa 6,zaa 8,Xaa 33] [(14,Xab),(18,Xae)])]⟩]⟩
def s9:Ctr:=⟨191,88,[.agg uad,shU I64,shU I64],[],[⟨Zaj,[.agg 2,.one],[]⟩],ap4 ms⟩
theorem Aw:Lk 2 s9:=ls AS (aC ji (aC mJ aN))
def mr(a0:LDOu)(a1:Int)(a2:LDCn):Option (LDOu×T01):=
(jc a0).bind λ(x0,_)=>
(bif(decide (a1<0))then(some (a0,a1,a2,true,x0,()))else
bif(decide (a1>=2))then(some (a0,a1,a2,true,x0,()))else
let x1:=dM a0.length;
bif(decide (x1>=200))then(some (a0,a1,a2,true,x0,()))else
let x2:=dM a2.length;
some (a0,a1,a2,(decide (x2>16)),x0,()):Option (LDOu×Int×LDCn×Bool×LDOu×Unit)).bind λ(x1,x2,x3,x4,x5,_)=>
bif x4 then(some (x5,0,false,()))else
let x6:=dM x1.length;
bif(dY 24 0 x3.length)then let x7:LDCn:=(List.append [] x3);
let x8:LDOu:=[(x6,(x2,x7))];
bif(dY 40 x5.length x8.length)then let x9:LDOu:=(List.append x5 x8);
let ac:=dM x3.length;
some (x9,ac,true,())else none else none
def AP:X.Cfg:=⟨E0,[pa],[(36,De),(37,De)],[⟨3,0,qE,[(.normal,qS [sP 0 iG,Uaa 1,sP 2 d9,Zaa 9 21,Xaa 27] [(21,Uai)])]⟩]⟩
def s8:Ctr:=⟨192,89,uL [iG,I64,d9],[],[⟨uL [(uaa De),I64,.bool],[.one,.one,.one],[]⟩],ap3 mr⟩
theorem Av:Lk 2 s8:=ls AP (aC sJ aN)
def fP:T1a->Option (T1a⊕(Int×Int×LI×Int×Int×Bool×LLI×LDCn×Unit)):=λ(v0,v1,v2,v3,v4,v5,v6,_)=>
bif(decide (v4<v3))then((d7 v4).bind λx0=>
(dI v2 x0).bind λx1=>
let x2:LDCn:=[(0,(x1,(0,0)))];
bif(dY 24 v6.length x2.length)then let x3:LDCn:=(List.append v6 x2);
let x4:=w64 (v4+1);
some (.inl (v0,v1,v2,v3,x4,v5,x3,()))else none)else
some (.inr (v0,v1,v2,v3,v4,false,v5,v6,()))
def jv(a0:List LI)(a1:Int)(a2:Int):Option ((LLI×Unit×Bool×Unit)⊕(LLI×LDCn×Bool×Unit)):=
(ft a0).bind λ(x0,_)=>
(bif(decide (a1<0))then(some (a0,a1,a2,true,x0,()))else
let x1:=dM a0.length;
bif(decide (a1>=x1))then(some (a0,a1,a2,true,x0,()))else
some (a0,a1,a2,(decide (a2<0)),x0,()):Option (LLI×Int×Int×Bool×LLI×Unit)).bind λ(x1,x2,x3,x4,x5,_)=>
bif x4 then(some (.inl (x5,(),false,())))else
(d7 x2).bind λx6=>
(dI x1 x6).bind λx7=>
let x8:=dM x7.length;
let x9:=mmR false x3 x8;
(d7 x2).bind λac=>
(dI x1 ac).bind λae=>
(d7 x9).bind λaf=>
bif(j0 0 af ae.length)then let ah:List (Int):=(mU ae 0 (Nat.sub af 0));
let ai:=dM ah.length;
(dU fP NN (x2,x9,ah,ai,0,x5,[],())).bind λ(aj,ak,am,an,ap,aq,av,ax,_)=>
(d7 aj).bind λay=>
(dI av ay).bind λaz=>
(dI av ay).bind λaA=>
(dI av ay).bind λaB=>
(d7 ak).bind λaD=>
bif(j0 aD aB.length aB.length)then(dI av ay).bind λaE=>
(d7 aj).bind λaF=>
(dI av aF).bind λaG=>
(dI av ay).bind λaH=>
(dI av aF).bind λaI=>
let aJ:=(List.modify av aF λe=>(mU aH aD (Nat.sub aB.length aD)));
some (.inr (aJ,ax,true,()))else none else none
def uV:X.Cfg:=⟨E0,[gY],[],[⟨3,0,qE,[(.normal,qS [sP 0 (yaa RW),Uaa 1,Uaa 2,Zaa 9 21,Xaa 27] [(21,uai)])]⟩,(lx 9 1 [Uaa 1,Zaa 9 21,Uaa 10,Zaa 11 25,sP 41 RW,Uaa 42,Uaa 43] [(21,uai),(25,yag)] 44)]⟩
def o8:Ctr:=⟨193,90,uL [(yaa RW),I64,I64],[],[⟨uL [(uaa (uaa CW)),N1,.bool],[.one,.one,.one],[]⟩,⟨uL [(uaa RW),(uaa KCn),.bool],[.one,.one,.one],[]⟩],ap3 jv⟩
theorem uF:Lk 2 o8:=ls uV (aC jP aN)
def qH:T36->Option (T36⊕(LDCn×Int×Int×Bool×T2Y)):=λ(v0,v1,v2,v3,v4,v5,v6,v7,v8,v9,v10,v11,v12,v13,v14,v15,v16,v17,v18,v19,v20,v21,v22,v23,v24,v25,v26,v27,v28,v29,v30,v31,v32,v33,v34,v35,v36,_)=>
bif(decide (v2<v1))then((d7 v2).bind λx0=>
(dI v0 x0).bind λx1=>
let x2:=wk .i64 x1.2.1;
(d7 v2).bind λx3=>
(dI v36 x3).bind λx4=>
(dI v36 x3).bind λx5=>
let x6:=List.modify v36 x3 λe=>x2;
let x7:=w64 (v2+1);
some (.inl (v0,v1,x7,v3,v4,v5,v6,v7,v8,v9,v10,v11,v12,v13,v14,v15,v16,v17,v18,v19,v20,v21,v22,v23,v24,v25,v26,v27,v28,v29,v30,v31,v32,v33,v34,v35,x6,())))else
some (.inr (v0,v1,v2,false,v3,v4,v5,v6,v7,v8,v9,v10,v11,v12,v13,v14,v15,v16,v17,v18,v19,v20,v21,v22,v23,v24,v25,v26,v27,v28,v29,v30,v31,v32,v33,v34,v35,v36,()))
def mV(a0:List (Int))(a1:List (Int))(a2:List LI)(a3:List LDCn)(a4:LDOp)(a5:LDOu)(a6:Int)(a7:Int)(a8:Int)(a9:Int)(a10:Int)(a11:Int)(a12:LDCn)(a13:LDCn):Option (LI×LI×LLI×LLCn×LDOp×LDOu×Int×Int×Int×Int×LDCn×Int×Bool×Int×Unit):=
((iu a0 a1 a2 a3 a4 a5).bind λ(x0,_)=>
bif(!x0)then(some (true,a0,a1,a2,a3,a4,a5,a6,a7,a8,a9,a10,a11,a12,a13,(),(),(),(),(),(),0,0,0,0,(),0,false,()))else
(jD a6 a7 a8 a9 a10 a11 a12 a13).bind λ(x1,_)=>
bif(!x1)then(some (true,a0,a1,a2,a3,a4,a5,a6,a7,a8,a9,a10,a11,a12,a13,(),(),(),(),(),(),0,0,0,0,(),0,false,()))else
bif(a7 != 1)then(some (true,a0,a1,a2,a3,a4,a5,a6,a7,a8,a9,a10,a11,a12,a13,(),(),(),(),(),(),0,0,0,0,(),0,false,()))else
(oB a11).bind λ(x2,_)=>
bif(!x2)then(some (true,a0,a1,a2,a3,a4,a5,a6,a7,a8,a9,a10,a11,a12,a13,(),(),(),(),(),(),0,0,0,0,(),0,false,()))else
(lh a6 a7 a8 a9 a10 a11 a12 a13).bind λ(x3,_)=>
bif(!x3)then(some (true,a0,a1,a2,a3,a4,a5,a6,a7,a8,a9,a10,a11,a12,a13,(),(),(),(),(),(),0,0,0,0,(),0,false,()))else
(gS a11).bind λ(x4,_)=>
bif(x4==2)then((dI a12 2).bind λx5=>
some ((decide (x5.2.1>16)),a0,a1,a2,a3,a4,a5,a6,a7,a8,a9,a10,a11,a12,a13,(),(),(),(),(),(),0,0,0,0,(),0,false,()))else
some (false,a0,a1,a2,a3,a4,a5,a6,a7,a8,a9,a10,a11,a12,a13,(),(),(),(),(),(),0,0,0,0,(),0,false,()):Option (Bool×LI×LI×LLI×LLCn×LDOp×LDOu×Int×Int×Int×Int×Int×Int×LDCn×LDCn×Unit×Unit×Unit×Unit×Unit×Unit×T18)).bind λ(x0,x1,x2,x3,x4,x5,x6,x7,x8,x9,ac,ae,af,ah,ai,aj,ak,am,an,ap,aq,av,ax,ay,az,aA,aB,aD,_)=>
bif x0 then(some ([],[],[],[],[],[],0,0,0,0,[],0,false,1,()))else
(mq x1 x2 x3 x4 x5 x6).bind λ(aE,aF,aG,aH,aI,aJ,_)=>
let aK:List (Int):=[0,0,0];
let aL:=dM ah.length;
(dU qH NN (ah,aL,0,x1,x2,x3,x4,x5,x6,x7,x8,x9,ac,ae,af,ah,ai,aj,ak,am,an,ap,aq,av,ax,ay,az,aA,aB,aD,aE,aF,aG,aH,aI,aJ,aK,())).bind λ(aM,aO,aP,aQ,aR,aS,aT,aU,aV,aW,aY,aZ,ba,bc,bd,be,bf,bg,bh,bi,bj,bk,bl,bm,bn,bo,bp,bq,bt,bv,bx,bA,bB,bC,bD,bE,bF,bG,_)=>
(dZ 0 false).bind λ(bH,bI,bJ,bK,bL)=>
(match(bif(be==1)then((dI bG 0).bind λbO=>
(dI bG 0).bind λbP=>
(lb aU aV bP bg).bind λ(bQ,bR,bS,bT,_)=>
(dZ bS bT).bind λ(bU,bV,bW,bY,bZ,b8,b9,_)=>
some (.inl (bh,bi,bj,bk,bl,bm,bn,bo,bp,bq,bt,bv,bx,bA,bB,bC,bQ,bR,bF,bU,bV,bW,bY,[],b8,b9,())))else
bif(be==2)then((dI bG 0).bind λbO=>
(dI bG 0).bind λbP=>
(dI bG 2).bind λbQ=>
(dI bG 2).bind λbR=>
(match mt aU aV bP bR with
|none=>none
|some (.inl (bS,bT,bU,bV,_))=>
(dZ 0 bV).bind λ(bW,bY,bZ,b8,b9,ca,cb,_)=>
some (.inl (bh,bi,bj,bk,bl,bm,bn,bo,bp,bq,bt,bv,bx,bA,bB,bC,bS,bT,bF,bW,bY,bZ,b8,[],ca,cb,()))
|some (.inr (bS,bT,bU,bV,_))=>
let bW:=dM bU.length;
(dZ bW bV).bind λ(bY,bZ,b8,b9,ca,cb,cd,_)=>
some (.inl (bh,bi,bj,bk,bl,bm,bn,bo,bp,bq,bt,bv,bx,bA,bB,bC,bS,bT,bF,bY,bZ,b8,b9,bU,cb,cd,()))))else
bif(be==3)then((dI bG 0).bind λbO=>
(dI bG 0).bind λbP=>
(dI bG 1).bind λbQ=>
(dI bG 1).bind λbR=>
(mu aU aV bP bR).bind λ(bS,bT,bU,_)=>
bif(decide (bU>=0))then(let bV:Int:=(wk .u16 bU);
some (.inr (.inl (bh,bi,bj,bk,bl,bm,bn,bo,bp,bq,bt,bv,bx,bA,bB,bC,bS,bT,bF,2,bV,0,0,bL))))else
some (.inr (.inl (bh,bi,bj,bk,bl,bm,bn,bo,bp,bq,bt,bv,bx,bA,bB,bC,bS,bT,bF,bH,bI,bJ,bK,bL))))else
bif(be==4)then((dI bG 0).bind λbO=>
(dI bG 0).bind λbP=>
(lc aU aV bP).bind λ(bQ,bR,bS,_)=>
(dZ 0 bS).bind λ(bT,bU,bV,bW,bY,bZ,b8,_)=>
some (.inl (bh,bi,bj,bk,bl,bm,bn,bo,bp,bq,bt,bv,bx,bA,bB,bC,bQ,bR,bF,bT,bU,bV,bW,[],bZ,b8,())))else
bif(be==5)then((dI bG 0).bind λbO=>
(dI bG 0).bind λbP=>
(dI bG 1).bind λbQ=>
(dI bG 1).bind λbR=>
(ms aU aV bP bR).bind λ(bS,bT,bU,_)=>
(dZ 0 bU).bind λ(bV,bW,bY,bZ,b8,b9,ca,_)=>
some (.inl (bh,bi,bj,bk,bl,bm,bn,bo,bp,bq,bt,bv,bx,bA,bB,bC,bS,bT,bF,bV,bW,bY,bZ,[],b9,ca,())))else
bif(be==6)then(let bO:Int:=(dM aR.length);
bif(decide (bO>0))then((dI aR 0).bind λbP=>
let bQ:=wk .i64 bP;
(dZ bQ true).bind λ(bR,bS,bT,bU,bV,bW,bY,_)=>
bif(j0 1 bA.length bA.length)then let bZ:List (Int):=(mU bA 1 (Nat.sub bA.length 1));
some (.inr (.inr (.inl (bh,bi,bj,bk,bl,bm,bn,bo,bp,bq,bt,bv,bx,bZ,bB,bC,bD,bE,bF,bR,bS,bT,bU,bV,bW,bY,()))))else none)else
some (.inr (.inl (bh,bi,bj,bk,bl,bm,bn,bo,bp,bq,bt,bv,bx,bA,bB,bC,bD,bE,bF,bH,bI,bJ,bK,bL))))else
bif(be==7)then(let bO:Int:=(dM aS.length);
bif(decide (bO>0))then((dI aS 0).bind λbP=>
let bQ:=wk .i64 bP;
(dZ bQ true).bind λ(bR,bS,bT,bU,bV,bW,bY,_)=>
bif(j0 1 bB.length bB.length)then let bZ:List (Int):=(mU bB 1 (Nat.sub bB.length 1));
some (.inr (.inr (.inr (.inl (bh,bi,bj,bk,bl,bm,bn,bo,bp,bq,bt,bv,bx,bA,bZ,bC,bD,bE,bF,bR,bS,bT,bU,bV,bW,bY,())))))else none)else
some (.inr (.inl (bh,bi,bj,bk,bl,bm,bn,bo,bp,bq,bt,bv,bx,bA,bB,bC,bD,bE,bF,bH,bI,bJ,bK,bL))))else
bif(be==13)then((dI bG 0).bind λbO=>
(dI bG 0).bind λbP=>
(mr aW bP bg).bind λ(bQ,bR,bS,_)=>
(dZ bR bS).bind λ(bT,bU,bV,bW,bY,bZ,b8,_)=>
some (.inr (.inl (bh,bi,bj,bk,bl,bm,bn,bo,bp,bq,bt,bv,bx,bA,bB,bC,bD,bE,bQ,bT,bU,bV,bW,bY,bZ,b8,()))))else
bif(be==14)then((dI bG 0).bind λbO=>
(dI bG 0).bind λbP=>
(dI bG 2).bind λbQ=>
(dI bG 2).bind λbR=>
(match jv aT bP bR with
|none=>none
|some (.inl (bS,bT,bU,_))=>
(dZ 0 bU).bind λ(bV,bW,bY,bZ,b8,b9,ca,_)=>
some (.inr (.inl (bh,bi,bj,bk,bl,bm,bn,bo,bp,bq,bt,bv,bx,bA,bB,bS,bD,bE,bF,bV,bW,bY,bZ,bT,b9,ca,())))
|some (.inr (bS,bT,bU,_))=>
let bV:=dM bT.length;
(dZ bV bU).bind λ(bW,bY,bZ,b8,b9,ca,cb,_)=>
some (.inr (.inr (.inr (.inr (bh,bi,bj,bk,bl,bm,bn,bo,bp,bq,bt,bv,bx,bA,bB,bS,bD,bE,bF,bW,bY,bZ,b8,bT,ca,cb,())))))))else
some (.inr (.inl (bh,bi,bj,bk,bl,bm,bn,bo,bp,bq,bt,bv,bx,bA,bB,bC,bD,bE,bF,bH,bI,bJ,bK,bL))):Option (T2O⊕(T2P⊕(T2P⊕(T2P⊕T2O)))))with
|none=>none
|some (.inl (bO,bP,bQ,bR,bS,bT,bU,bV,bW,bY,bZ,b8,b9,ca,cb,cd,cf,cg,ch,ci,cj,cl,cn,cq,cr,cu,_))=>
some (ca,cb,cd,cf,cg,ch,ci,cj,cl,cn,cq,cr,cu,0,())
|some (.inr (.inl (bO,bP,bQ,bR,bS,bT,bU,bV,bW,bY,bZ,b8,b9,ca,cb,cd,cf,cg,ch,ci,cj,cl,cn,cq,cr,cu,_)))=>
some (ca,cb,cd,cf,cg,ch,ci,cj,cl,cn,[],cr,cu,0,())
|some (.inr (.inr (.inl (bO,bP,bQ,bR,bS,bT,bU,bV,bW,bY,bZ,b8,b9,ca,cb,cd,cf,cg,ch,ci,cj,cl,cn,cq,cr,cu,_))))=>
some (ca,cb,cd,cf,cg,ch,ci,cj,cl,cn,[],cr,cu,0,())
|some (.inr (.inr (.inr (.inl (bO,bP,bQ,bR,bS,bT,bU,bV,bW,bY,bZ,b8,b9,ca,cb,cd,cf,cg,ch,ci,cj,cl,cn,cq,cr,cu,_)))))=>
some (ca,cb,cd,cf,cg,ch,ci,cj,cl,cn,[],cr,cu,0,())
|some (.inr (.inr (.inr (.inr (bO,bP,bQ,bR,bS,bT,bU,bV,bW,bY,bZ,b8,b9,ca,cb,cd,cf,cg,ch,ci,cj,cl,cn,cq,cr,cu,_)))))=>
some (ca,cb,cd,cf,cg,ch,ci,cj,cl,cn,cq,cr,cu,0,()))
def Fg:X.Cfg:=⟨E0,[lE,nV,s7,ry,iM,o7,jV,rp,td,te,rq,s9,s8,o8],[],[⟨2,0,qE,[(.normal,qS [zaa 2,zaa 3,zaa 4,zaa 5,Xaa 67] [(6,Zaf),(8,Zac),(10,yah),(12,uae)])]⟩,(lx 8 1 [zaa 2,zaa 3,zaa 4,zaa 5,zaa 7,Zaa 8 19,sP 74 d9,Uaa 75,Uaa 76] [(6,Zaf),(8,Zac),(10,yah),(12,uae),(16,Xai),(19,yae)] 77),⟨14,2,qE,[(.normal,(qS [zaa 4,zaa 5,zaa 7,zaa 11] [(10,yah),(12,uae),(16,uL [(uaa CW),(uaa CW),(uaa (uaa CW)),(yaa d9),gu,(uaa De)]),(24,uak)])),(.normal,qS [zaa 4,zaa 5,zaa 7,zaa 11] [(10,yah),(12,uae),(16,Xai),(24,uae)]),(.normal,(qS [zaa 4,zaa 5,zaa 7,zaa 11] [(10,yah),(12,uae),(16,uL [RW,(uaa CW),(uaa (uaa CW)),(uaa (uaa KCn)),(uaa KOp),(uaa De)]),(24,uae)])),(.normal,(qS [zaa 4,zaa 5,zaa 7,zaa 11] [(10,yah),(12,uae),(16,uL [(uaa CW),RW,(uaa (uaa CW)),(uaa (uaa KCn)),(uaa KOp),(uaa De)]),(24,uae)])),(.normal,(qS [zaa 4,zaa 5,zaa 7,zaa 11] [(10,yah),(12,uae),(16,uL [(uaa CW),(uaa CW),(uaa RW),(uaa (uaa KCn)),(uaa KOp),(uaa De)]),(24,uak)]))]⟩]⟩
def xA:Ctr:=⟨172,91,[.agg Zaf,.agg Zac],[],[⟨uL [RW,RW,(yaa RW),(yaa d9),gu,iG,CB,CW,I64,I64,d9,I64,.bool,I64],[.agg 6,.agg 7,.one],[]⟩],ap14 mV⟩
theorem E9:Lk 5 xA:=ls Fg (aC nK (aC qX (aC Au (aC yp (aC kE (aC sI (aC lB (aC yk (aC Ax (aC Ay (aC yl (aC Aw (aC Av (aC uF aN))))))))))))))
def jq:T2S->Option (T2S⊕(T2K⊕(LDTh×Int×Int×Bool×T2K))):=λ(v0,v1,v2,v3,v4,v5,v6,v7,v8,v9,v10,v11,v12,v13,v14,v15,v16,v17,v18,v19,v20,v21)=>
bif(decide (v2<v1))then((d7 v2).bind λx0=>
(dI v0 x0).bind λx1=>
bif(x1.1==0)then((dZ v2 true).bind λ(x2,x3,x4,x5,x6,x7,x8,_)=>
some (.inr (.inl (v3,v4,v5,v6,v7,v8,v9,v10,v11,v12,v13,v14,v15,v16,v17,v18,v19,v20,x2,x3,x4,x5,x6,v2,x8,()))))else
let x2:=w64 (v2+1);
some (.inl (v0,v1,x2,v3,v4,v5,v6,v7,v8,v9,v10,v11,v12,v13,v14,v15,v16,v17,v18,v19,v20,v21)))else
some (.inr (.inr (v0,v1,v2,false,v3,v4,v5,v6,v7,v8,v9,v10,v11,v12,v13,v14,v15,v16,v17,v18,v19,v20,v21)))
def jt(a0:Int)(a1:Int)(a2:Int)(a3:Int)(a4:Int)(a5:Int)(a6:LDCn)(a7:LDCn)(a8:LDIn)(a9:List (Int))(a10:List LI)(a11:List (Int))(a12:Int)(a13:LDCe)(a14:LDLn)(a15:LDTh)(a16:List (Int))(a17:List (Int))(a18:List LI)(a19:List LDCn)(a20:LDOp)(a21:LDOu)(a22:List (Int))(a23:List LI)(a24:LDEn)(a25:List (Int)):Option (Int×Int×Int×Int×LDCn×T2C):=
(bif(a5==0)then(some (a5,true,a8,a9,a10,a11,a12,a13,a14,a15,a16,a17,a18,a19,a20,a21,a22,a23,a24,a25,a0,a1,a2,a3,a4,a5,a6,a7,0,0,0,0,(),0,false,()))else
bif(a5==12)then(some (a5,true,a8,a9,a10,a11,a12,a13,a14,a15,a16,a17,a18,a19,a20,a21,a22,a23,a24,a25,a0,a1,a2,a3,a4,a5,a6,a7,0,0,0,0,(),0,false,()))else
some (a5,(a5==15),a8,a9,a10,a11,a12,a13,a14,a15,a16,a17,a18,a19,a20,a21,a22,a23,a24,a25,a0,a1,a2,a3,a4,a5,a6,a7,0,0,0,0,(),0,false,()):Option (T2Z)).bind λ(x0,x1,x2,x3,x4,x5,x6,x7,x8,x9,ac,ae,af,ah,ai,aj,ak,am,an,ap,aq,av,ax,ay,az,aA,aB,aD,aE)=>
bif x1 then((dZ 0 true).bind λ(aL,aM,aO,aP,aQ,aR,aS,_)=>
some (aL,aM,aO,aP,[],aR,aS,x2,x3,x4,x5,x6,x7,x8,x9,ac,ae,af,ah,ai,aj,ak,am,an,ap,()))else
bif(x0==8)then((dI aB 0).bind λaL=>
let aM:=wk .i64 aL.2.1;
(mw ak am aM aq).bind λ(aO,aP,aQ,_)=>
(dZ 0 (aQ != 2)).bind λ(aR,aS,aT,aU,aV,aW,aY,_)=>
some (aR,aS,aT,aU,[],aW,(aQ==1),x2,x3,x4,x5,x6,x7,x8,x9,ac,ae,af,ah,ai,aj,aO,aP,an,ap,()))else
bif(x0==9)then((dI aB 0).bind λaL=>
let aM:=wk .i64 aL.2.1;
(jd ak am aM aq).bind λ(aO,aP,aQ,aR,_)=>
(dZ 0 aR).bind λ(aS,aT,aU,aV,aW,aY,aZ,_)=>
some (aS,aT,aU,aV,[],aY,aZ,x2,x3,x4,x5,x6,x7,x8,x9,ac,ae,af,ah,ai,aj,aO,aP,an,ap,()))else
bif(x0==10)then(let aL:Int:=(dM x9.length);
(match dU jq NN (x9,aL,0,x2,x3,x4,x5,x6,x7,x8,x9,ac,ae,af,ah,ai,aj,ak,am,an,ap,aE)with
|none=>none
|some (.inl (aM,aO,aP,aQ,aR,aS,aT,aU,aV,aW,aY,aZ,ba,bc,bd,be,bf,bg,bh,bi,bj,bk,bl,bm,bn,_))=>
some (bh,bi,bj,bk,[],bm,bn,aM,aO,aP,aQ,aR,aS,aT,aU,aV,aW,aY,aZ,ba,bc,bd,be,bf,bg,())
|some (.inr (aM,aO,aP,aQ,aR,aS,aT,aU,aV,aW,aY,aZ,ba,bc,bd,be,bf,bg,bh,bi,bj,bk,bl,bm,bn,bo,bp,bq,bt,_))=>
(dZ 0 false).bind λ(bv,bx,bA,bB,bC,bD,bE,_)=>
some (bv,bx,bA,bB,[],bD,bE,aR,aS,aT,aU,aV,aW,aY,aZ,ba,bc,bd,be,bf,bg,bh,bi,bj,bk,())))else
bif(x0==11)then((dI aB 0).bind λaL=>
let aM:=wk .i64 aL.2.1;
(bif(aM==aq)then(some (aM,true,x2,x3,x4,x5,x6,x7,x8,x9,ac,ae,af,ah,ai,aj,ak,am,an,ap,aq,av,ax,ay,az,aA,aB,aD,aE))else
bif(decide (aM>=4))then(some (aM,true,x2,x3,x4,x5,x6,x7,x8,x9,ac,ae,af,ah,ai,aj,ak,am,an,ap,aq,av,ax,ay,az,aA,aB,aD,aE))else
(d7 aM).bind λaO=>
(dI x9 aO).bind λaP=>
some (aM,(aP.1==0),x2,x3,x4,x5,x6,x7,x8,x9,ac,ae,af,ah,ai,aj,ak,am,an,ap,aq,av,ax,ay,az,aA,aB,aD,aE):Option (T2Z)).bind λ(aO,aP,aQ,aR,aS,aT,aU,aV,aW,aY,aZ,ba,bc,bd,be,bf,bg,bh,bi,bj,bk,bl,bm,bn,bo,bp,bq,bt,bv,bx,bA,bB,bC,bD,bE,_)=>
bif aP then((dZ 0 false).bind λ(bF,bG,bH,bI,bJ,bK,bL,_)=>
some (bF,bG,bH,bI,[],bK,bL,aQ,aR,aS,aT,aU,aV,aW,aY,aZ,ba,bc,bd,be,bf,bg,bh,bi,bj,()))else
(d7 aO).bind λbF=>
(dI aY bF).bind λbG=>
bif(bG.1==4)then(let bH:Int:=(wk .i64 bG.2.2.2.2.2.2.2);
(dZ bH true).bind λ(bI,bJ,bK,bL,bM,bN,bO,_)=>
some (bI,bJ,bK,bL,[],bN,bO,aQ,aR,aS,aT,aU,aV,aW,aY,aZ,ba,bc,bd,be,bf,bg,bh,bi,bj,()))else
(d7 bk).bind λbH=>
(dI bj bH).bind λbI=>
(dI bj bH).bind λbJ=>
let bK:=List.modify bj bH λe=>aO;
(dZ 0 true).bind λ(bL,bM,bN,bO,bP,bQ,bR,_)=>
some (bL,bM,bN,bO,[],bQ,true,aQ,aR,aS,aT,aU,aV,aW,aY,aZ,ba,bc,bd,be,bf,bg,bh,bi,bK,()))else
(mV ac ae af ah ai aj aq av ax ay az aA aB aD).bind λ(aL,aM,aO,aP,aQ,aR,aS,aT,aU,aV,aW,aY,aZ,ba,_)=>
some (aS,aT,aU,aV,aW,aY,aZ,x2,x3,x4,x5,x6,x7,x8,x9,aL,aM,aO,aP,aQ,aR,ak,am,an,ap,())
def uU:X.Cfg:=⟨E0,[jV,tg,mO,xA],[],[⟨3,0,qE,[(.normal,qS [zaa 0,zaa 3,zaa 4,Uaa 21,Xaa 22] [(2,Xac),(8,Zac),(10,uae)])]⟩,⟨20,1,qS [zaa 0,zaa 4,sP 87 fN,Uaa 88,Uaa 89] [(2,Xac),(10,uae)],[(.ret,qS [zaa 0,zaa 4] [(2,Xac),(10,uae)]),(.exit 1,qS [zaa 0,zaa 4,sP 87 fN,Uaa 88,Uaa 89,Xaa 90] [(2,Xac),(10,uae)])]⟩,⟨33,2,qE,[(.normal,qS [zaa 0,zaa 3,zaa 4,Uaa 14,Xaa 131] [(2,Xac),(8,Zac),(10,uae)])]⟩]⟩
def o6:Ctr:=⟨150,92,[.ptr ⟨2,0,[]⟩ [0],.agg Zac],[(2,Xac)],[⟨zaf,[.agg 7],[(2,Xac)]⟩],ap26 jt⟩
theorem uE:Lk 6 o6:=ls uU (aC lB (aC Az (aC oT (aC E9 aN))))
def jz(a0:Int)(a1:Int)(a2:Int)(a3:Int)(a4:LDCn)(a5:Int)(a6:Bool):Option (Bool×Unit):=
(je a0 a1 a2 a3).bind λ(x0,_)=>
bif x0 then((fa a4 16).bind λ(x1,_)=>
bif x1 then(bif(decide (a5>=(-1)))then(some ((decide (a5<4)),()))else
some (false,()))else
some (false,()))else
some (false,())
def yP:X.Cfg:=⟨E0,[ph,fW],[],[]⟩
def nU:Ctr:=⟨42,93,[.agg zaf],[],[⟨uac,[.one],[]⟩],ap7 jz⟩
theorem qW:Lk 3 nU:=ls yP (aC sM (aC gI aN))
def fX(a0:List (Int))(a1:Int)(a2:List (Int))(a3:Int)(a4:Int)(a5:Int)(a6:Int):Option (T0d):=
(fY a2 a3 a4 a5 a6).bind λ(x0,_)=>
bif(!x0)then(some (0,0,1,()))else
bif(a3==0)then(some (0,a4,0,()))else
bif(a3==2)then(let x1:Int:=(wk .u16 (a4+a1));
some (2,x1,0,()))else
(d7 a5).bind λx1=>
(dI a0 x1).bind λx2=>
let x3:=w64 (x2+a6);
let x4:=wk .u16 x3;
some (1,x4,0,())
def CD:X.Cfg:=⟨E0,[iN],[],[]⟩
def nZ:Ctr:=⟨43,94,[.agg yab,shU RI,.agg Zag],[],[⟨yai,[.agg 2,.one],[]⟩],ap7 fX⟩
theorem qu:Lk 3 nZ:=ls CD (aC kF aN)
def jI(a0:List (Int))(a1:Int)(a2:List (Int))(a3:Int)(a4:Int):Option (T02):=
(fD a2 a3 a4).bind λ(x0,_)=>
bif(!x0)then(some (0,6,()))else
(d7 a3).bind λx1=>
(dI a0 x1).bind λx2=>
let x3:=w64 (x2+a4);
some (x3,0,())
def u5:X.Cfg:=⟨E0,[iO],[],[]⟩
def pq:Ctr:=⟨194,95,[.agg yab,shU RI,.agg zac],[],[⟨zac,[.one,.one],[]⟩],ap5 jI⟩
theorem uN:Lk 2 pq:=ls u5 (aC kG aN)
def qI:Option (T1q):=
bif(sf 8 8 2)then let x0:LDCe:=(List.replicate 8 (0,0));
some (0,x0,0,0,(-1),(-1),0,0,())else none
def za:X.Cfg:=⟨E0,[],[],[]⟩
def rD:Ctr:=⟨201,96,[],[],[⟨uah,[.agg 8],[]⟩],λh=>qI⟩
theorem yw:Lk 1 rD:=ls za aN
def nC(a0:Int)(a1:Int)(a2:Int):Option (T1q):=
(qI).bind λ(x0,x1,x2,x3)=>
(dI x1 0).bind λx8=>
(dI x1 0).bind λx9=>
let ac:=List.modify x1 0 λe=>(a1,a2);
some (1,ac,a0,x3)
def Cz:X.Cfg:=⟨E0,[rD],[],[]⟩
def vD:Ctr:=⟨195,97,[shU I64,.agg Uab],[],[⟨uah,[.agg 8],[]⟩],ap3 nC⟩
theorem Cl:Lk 2 vD:=ls Cz (aC yw aN)
def kp:T2T->Option (T2T⊕(T0O⊕T2U)):=λ(v0,v1,v2,v3,v4,v5,v6,v7,v8,v9,v10,v11,v12,v13,v14,v15,v16,v17,v18,v19,v20,v21,v22,v23,v24,v25,v26,v27,v28,v29,v30,_)=>
bif(decide (v3<v2))then((d7 v3).bind λx0=>
(dI v1 x0).bind λx1=>
(fX v4 v5 v10 x1.1 x1.2.1 x1.2.2.1 x1.2.2.2).bind λ(x2,x3,x4,_)=>
bif(x4 != 0)then(some (.inr (.inl (false,v4,v5,v6,v7,v8,()))))else
(fD v10 v29 v30).bind λ(x5,_)=>
bif(!x5)then(some (.inr (.inl (false,v4,v5,v6,v7,v8,()))))else
(jI v4 v5 v10 v29 v30).bind λ(x6,x7,_)=>
(jG x6 x2 x3 v6 v7).bind λ(x8,x9,_)=>
let ac:=w64 (v30+1);
let ae:=w64 (v3+1);
some (.inl (v0,v1,v2,ae,v4,v5,x8,x9,v8,v9,v10,v11,v12,v13,v14,v15,v16,v17,v18,v19,v20,v21,v22,v23,v24,v25,v26,v27,v28,v29,ac,())))else
some (.inr (.inr (v0,v1,v2,v3,false,v4,v5,v6,v7,v8,v9,v10,v11,v12,v13,v14,v15,v16,v17,v18,v19,v20,v21,v22,v23,v24,v25,v26,v27,v28,v29,v30,())))
def nz(a0:LDIn)(a1:List (Int))(a2:List LI)(a3:Int)(a4:Int)(a5:Int)(a6:Int)(a7:Int)(a8:Int)(a9:LDCn)(a10:LDCn)(a11:Int)(a12:Int)(a13:Int)(a14:Int)(a15:LDCn)(a16:Int)(a17:Bool)(a18:List (Int))(a19:Int)(a20:LDCe)(a21:LDLn)(a22:LDTh):Option (T0O):=
(d7 a3).bind λx0=>
(dI a22 x0).bind λx1=>
(fX a18 a19 a1 a11 a12 a13 a14).bind λ(x2,x3,x4,_)=>
bif(x4 != 0)then(some (false,a18,a19,a20,a21,a22,()))else
(match((gS a8).bind λ(x5,_)=>
bif(x5==2)then(let x6:Int:=(dM a15.length);
bif(decide (x6>0))then((dI a9 1).bind λx7=>
(dI a9 1).bind λx8=>
(dI a9 1).bind λx9=>
(fY a1 x9.1 x9.2.1 x9.2.2.1 x9.2.2.2).bind λ(ac,_)=>
bif(!ac)then(some (.inl (false,a18,a19,a20,a21,a22,())))else
(dI a9 1).bind λae=>
bif(ae.1 != 1)then(some (.inl (false,a18,a19,a20,a21,a22,())))else
let af:=dM a15.length;
(match dU kp NN (x0,a15,af,0,a18,a19,a20,a21,a22,a0,a1,a2,a3,a4,a5,a6,a7,a8,a9,a10,a11,a12,a13,a14,a15,a16,a17,x2,x3,x7.2.2.1,x8.2.2.2,())with
|none=>none
|some (.inl (ah,ai,aj,ak,am,an,_))=>
some (.inl (ah,ai,aj,ak,am,an,()))
|some (.inr (ah,ai,aj,ak,am,an,ap,aq,av,ax,ay,az,aA,aB,aD,aE,aF,aG,aH,aI,aJ,aK,aL,aM,aO,aP,aQ,aR,aS,aT,aU,aV,_))=>
some (.inr (.inl (ah,ai,aj,ak,am,an,ap,aq,av,ax,ay,az,aA,aB,aD,aE,aF,aG,aH,aI,aJ,aK,aL,aM,aO,aP,aQ,aR,aS,aT,aU,aV,())))))else
some (.inr (.inr (x0,false,a18,a19,a20,a21,a22,a0,a1,a2,a3,a4,a5,a6,a7,a8,a9,a10,a11,a12,a13,a14,a15,a16,a17,x2,x3,()))))else
some (.inr (.inr (x0,false,a18,a19,a20,a21,a22,a0,a1,a2,a3,a4,a5,a6,a7,a8,a9,a10,a11,a12,a13,a14,a15,a16,a17,x2,x3,()))):Option (T0O⊕(T2U⊕(Nat×Bool×T2L))))with
|none=>none
|some (.inl (x5,x6,x7,x8,x9,ac,_))=>
some (x5,x6,x7,x8,x9,ac,())
|some (.inr (.inl (x5,x6,x7,x8,x9,ac,ae,af,ah,ai,aj,ak,am,an,ap,aq,av,ax,ay,az,aA,aB,aD,aE,aF,aG,aH,aI,aJ,aK,aL,aM,_)))=>
(match(bif(ay==12)then((dI az 0).bind λaO=>
let aP:=wk .i64 aO.2.1;
bif(decide (aP>255))then(some (.inl (false,ac,ae,af,ah,ai,())))else
(dI az 0).bind λaQ=>
bif(aQ.1 != 0)then(some (.inl (false,ac,ae,af,ah,ai,())))else
(dI az 0).bind λaR=>
let aS:=wk .i64 aR.2.1;
(dI ai x5).bind λaT=>
let aU:=(List.modify ai x5 λe=>(e.1,(e.2.1,(e.2.2.1,(e.2.2.2.1,(aS,e.2.2.2.2.2))))));
some (.inr (x5,ac,ae,af,ah,aU,aj,ak,am,an,ap,aq,av,ax,ay,az,aA,aB,aD,aE,aF,aG,aH,aI,aJ,aK,())))else
some (.inr (x5,ac,ae,af,ah,ai,aj,ak,am,an,ap,aq,av,ax,ay,az,aA,aB,aD,aE,aF,aG,aH,aI,aJ,aK,())):Option (T0O⊕T2N))with
|none=>none
|some (.inl (aO,aP,aQ,aR,aS,aT,_))=>
some (aO,aP,aQ,aR,aS,aT,())
|some (.inr (aO,aP,aQ,aR,aS,aT,aU,aV,aW,aY,aZ,ba,bc,bd,be,bf,bg,bh,bi,bj,bk,bl,bm,bn,bo,bp,_))=>
(match(bif(be==10)then(bif(decide (bm>=0))then((dI bf 1).bind λbq=>
(fX aP aQ aV bq.1 bq.2.1 bq.2.2.1 bq.2.2.2).bind λ(bt,bv,bx,_)=>
(bif(bx != 0)then(some (aO,true,aP,aQ,aR,aS,aT,aY,aZ,ba,bc,bd,be,bf,bg,bh,bi,bj,bk,bl,bm,bn,bo,bp,bt,bv,()))else
(d7 bm).bind λbA=>
(dI aT bA).bind λbB=>
(dI aT bA).bind λbC=>
bif(bC.1 != 0)then(some (aO,true,aP,aQ,aR,aS,aT,aY,aZ,ba,bc,bd,be,bf,bg,bh,bi,bj,bk,bl,bm,bn,bo,bp,bt,bv,()))else
(dI bf 0).bind λbD=>
let bE:=wk .i64 bD.2.1;
bif(decide (bE>255))then(some (aO,true,aP,aQ,aR,aS,aT,aY,aZ,ba,bc,bd,be,bf,bg,bh,bi,bj,bk,bl,bm,bn,bo,bp,bt,bv,()))else
(dI bf 0).bind λbF=>
some (aO,(bF.1 != 0),aP,aQ,aR,aS,aT,aY,aZ,ba,bc,bd,be,bf,bg,bh,bi,bj,bk,bl,bm,bn,bo,bp,bt,bv,()):Option (T2M)).bind λ(bA,bB,bC,bD,bE,bF,bG,bH,bI,bJ,bK,bL,bM,bN,bO,bP,bQ,bR,bS,bT,bU,bV,bW,bY,bZ,b8,_)=>
bif bB then(some (.inl (false,bC,bD,bE,bF,bG,())))else
(dI bN 0).bind λb9=>
let ca:=wk .i64 b9.2.1;
(nC ca bZ b8).bind λ(cb,cd,cf,cg,ch,ci,cj,cl,_)=>
(d7 bU).bind λcn=>
(dI bG cn).bind λcq=>
(dI bG cn).bind λcr=>
let cu:=(List.modify bG cn λe=>(cb,(cd,(cf,(cg,(ch,(ci,(cj,cl))))))));
some (.inr (bA,bC,bD,bE,bF,cu,bH,bI,bJ,bK,bL,bM,bN,bO,bW,bY,())))else
some (.inr (aO,aP,aQ,aR,aS,aT,aY,aZ,ba,bc,bd,be,bf,bg,bo,bp,())))else
some (.inr (aO,aP,aQ,aR,aS,aT,aY,aZ,ba,bc,bd,be,bf,bg,bo,bp,())):Option (T0O⊕T2r))with
|none=>none
|some (.inl (bq,bt,bv,bx,bA,bB,_))=>
some (bq,bt,bv,bx,bA,bB,())
|some (.inr (bq,bt,bv,bx,bA,bB,bC,bD,bE,bF,bG,bH,bI,bJ,bK,bL,_))=>
(dI bB bq).bind λbM=>
(dI bB bq).bind λbN=>
(dI bN.2.1 0).bind λbO=>
(dI bB bq).bind λbP=>
(dI bP.2.1 0).bind λbQ=>
let bR:=(List.modify bB bq λe=>(e.1,((List.modify e.2.1 0 λe=>(bK,bL)),e.2.2)));
(dI bR bq).bind λbS=>
let bT:=List.modify bR bq λe=>(1,e.2);
some (true,bt,bv,bx,bA,bT,())))
|some (.inr (.inr (x5,x6,x7,x8,x9,ac,ae,af,ah,ai,aj,ak,am,an,ap,aq,av,ax,ay,az,aA,aB,aD,aE,aF,aG,aH,_)))=>
(match(bif(aq==12)then((dI av 0).bind λaI=>
let aJ:=wk .i64 aI.2.1;
bif(decide (aJ>255))then(some (.inl (false,x7,x8,x9,ac,ae,())))else
(dI av 0).bind λaK=>
bif(aK.1 != 0)then(some (.inl (false,x7,x8,x9,ac,ae,())))else
(dI av 0).bind λaL=>
let aM:=wk .i64 aL.2.1;
(dI ae x5).bind λaO=>
let aP:=(List.modify ae x5 λe=>(e.1,(e.2.1,(e.2.2.1,(e.2.2.2.1,(aM,e.2.2.2.2.2))))));
some (.inr (x5,x7,x8,x9,ac,aP,af,ah,ai,aj,ak,am,an,ap,aq,av,ax,ay,az,aA,aB,aD,aE,aF,aG,aH,())))else
some (.inr (x5,x7,x8,x9,ac,ae,af,ah,ai,aj,ak,am,an,ap,aq,av,ax,ay,az,aA,aB,aD,aE,aF,aG,aH,())):Option (T0O⊕T2N))with
|none=>none
|some (.inl (aI,aJ,aK,aL,aM,aO,_))=>
some (aI,aJ,aK,aL,aM,aO,())
|some (.inr (aI,aJ,aK,aL,aM,aO,aP,aQ,aR,aS,aT,aU,aV,aW,aY,aZ,ba,bc,bd,be,bf,bg,bh,bi,bj,bk,_))=>
(match(bif(aY==10)then(bif(decide (bh>=0))then((dI aZ 1).bind λbl=>
(fX aJ aK aQ bl.1 bl.2.1 bl.2.2.1 bl.2.2.2).bind λ(bm,bn,bo,_)=>
(bif(bo != 0)then(some (aI,true,aJ,aK,aL,aM,aO,aS,aT,aU,aV,aW,aY,aZ,ba,bc,bd,be,bf,bg,bh,bi,bj,bk,bm,bn,()))else
(d7 bh).bind λbp=>
(dI aO bp).bind λbq=>
(dI aO bp).bind λbt=>
bif(bt.1 != 0)then(some (aI,true,aJ,aK,aL,aM,aO,aS,aT,aU,aV,aW,aY,aZ,ba,bc,bd,be,bf,bg,bh,bi,bj,bk,bm,bn,()))else
(dI aZ 0).bind λbv=>
let bx:=wk .i64 bv.2.1;
bif(decide (bx>255))then(some (aI,true,aJ,aK,aL,aM,aO,aS,aT,aU,aV,aW,aY,aZ,ba,bc,bd,be,bf,bg,bh,bi,bj,bk,bm,bn,()))else
(dI aZ 0).bind λbA=>
some (aI,(bA.1 != 0),aJ,aK,aL,aM,aO,aS,aT,aU,aV,aW,aY,aZ,ba,bc,bd,be,bf,bg,bh,bi,bj,bk,bm,bn,()):Option (T2M)).bind λ(bp,bq,bt,bv,bx,bA,bB,bC,bD,bE,bF,bG,bH,bI,bJ,bK,bL,bM,bN,bO,bP,bQ,bR,bS,bT,bU,_)=>
bif bq then(some (.inl (false,bt,bv,bx,bA,bB,())))else
(dI bI 0).bind λbV=>
let bW:=wk .i64 bV.2.1;
(nC bW bT bU).bind λ(bY,bZ,b8,b9,ca,cb,cd,cf,_)=>
(d7 bP).bind λcg=>
(dI bB cg).bind λch=>
(dI bB cg).bind λci=>
let cj:=(List.modify bB cg λe=>(bY,(bZ,(b8,(b9,(ca,(cb,(cd,cf))))))));
some (.inr (bp,bt,bv,bx,bA,cj,bC,bD,bE,bF,bG,bH,bI,bJ,bR,bS,())))else
some (.inr (aI,aJ,aK,aL,aM,aO,aS,aT,aU,aV,aW,aY,aZ,ba,bj,bk,())))else
some (.inr (aI,aJ,aK,aL,aM,aO,aS,aT,aU,aV,aW,aY,aZ,ba,bj,bk,())):Option (T0O⊕T2r))with
|none=>none
|some (.inl (bl,bm,bn,bo,bp,bq,_))=>
some (bl,bm,bn,bo,bp,bq,())
|some (.inr (bl,bm,bn,bo,bp,bq,bt,bv,bx,bA,bB,bC,bD,bE,bF,bG,_))=>
(dI bq bl).bind λbH=>
(dI bq bl).bind λbI=>
(dI bI.2.1 0).bind λbJ=>
(dI bq bl).bind λbK=>
(dI bK.2.1 0).bind λbL=>
let bM:=(List.modify bq bl λe=>(e.1,((List.modify e.2.1 0 λe=>(bF,bG)),e.2.2)));
(dI bM bl).bind λbN=>
let bO:=List.modify bM bl λe=>(1,e.2);
some (true,bm,bn,bo,bp,bO,()))))
def Cw:X.Cfg:=⟨E0,[nZ,iM,iN,iO,pq,nW,vD],[],[⟨13,0,(qS [zaa 1,zaa 4,zaa 6,zaa 7,(9,.ptr ⟨4,4,[((),(8,0))]⟩ [0,0]),zaa 10,zaa 12,sP 80 d9,Uaa 81,Uaa 82] [(4,Uac),(10,uab),(14,Zac),(16,zaf),(22,Uab),(26,zac)]),[(.ret,qS [zaa 1,Xaa 8] [(4,Uac)]),(.exit 0,(qS [zaa 1,zaa 4,zaa 6,zaa 7,(9,.ptr ⟨4,4,[((),(8,0))]⟩ [0,0]),zaa 10,zaa 12,sP 80 d9,Uaa 81,Uaa 82,Xaa 83] [(4,Uac),(10,uab),(14,Zac),(16,zaf),(22,Uab),(26,zac)]))]⟩,⟨6,1,qE,[(.ret,qS [zaa 1,Xaa 8] [(4,Uac)]),(.normal,(qS [zaa 1,zaa 4,zaa 6,zaa 7,(9,.ptr ⟨4,4,[((),(8,0))]⟩ [0,0]),zaa 10,zaa 12,sP 80 d9,Uaa 81,Uaa 82,Xaa 83] [(4,Uac),(10,uab),(14,Zac),(16,zaf),(22,Uab),(26,zac)])),(.normal,(qS [zaa 1,zaa 4,zaa 6,zaa 7,(9,.ptr ⟨4,4,[((),(8,0))]⟩ [0,0]),zaa 10,Xaa 51] [(4,Uac),(10,uab),(14,Zac),(16,zaf),(22,Uab)]))]⟩,⟨24,2,qE,[(.ret,qS [zaa 1,Xaa 8] [(4,Uac)]),(.normal,(qS [zaa 1,zaa 4,zaa 6,zaa 7,(9,.ptr ⟨4,4,[((),(8,0))]⟩ [0,0]),zaa 10] [(4,Uac),(10,uab),(14,Zac),(16,zaf),(22,Uab)]))]⟩,⟨33,3,qE,[(.normal,(qS [zaa 1,zaa 6,zaa 7,(9,.ptr ⟨4,4,[((),(8,0))]⟩ [0,0]),zaa 10,zaa 19,Xaa 207] [(4,Uac),(14,Zac),(16,zaf),(22,Uab),(40,Uab)]))]⟩,⟨29,4,qE,[(.ret,qS [zaa 1,Xaa 8] [(4,Uac)]),(.normal,(qS [zaa 1,(9,.ptr ⟨4,4,[((),(8,0))]⟩ [0,0]),zaa 10] [(4,Uac),(14,Zac),(22,Uab)]))]⟩]⟩
def vA:Ctr:=⟨174,98,[.agg uab,.ptr ⟨4,0,[]⟩ [0],.agg Zac,.agg zaf],[(4,Uac)],[⟨uac,[.one],[(4,Uac)]⟩],ap23 nz⟩
theorem Ci:Lk 4 vA:=ls Cw (aC qu (aC kE (aC kF (aC kG (aC uN (aC qY (aC Cl aN)))))))
def nA(a0:LDIn)(a1:List (Int))(a2:List LI)(a3:List (Int))(a4:Int)(a5:LDCe)(a6:LDLn)(a7:LDTh)(a8:Int)(a9:Int)(a10:Int)(a11:Int)(a12:Int)(a13:Int)(a14:LDCn)(a15:LDCn)(a16:Int)(a17:Int)(a18:Int)(a19:Int)(a20:LDCn)(a21:Int)(a22:Bool):Option (T10):=
((iv a0 a1 a2 a3 a4 a5 a6 a7).bind λ(x0,_)=>
bif(!x0)then(some (true,a0,a1,a2,a3,a4,a5,a6,a7,a8,a9,a10,a11,a12,a13,a14,a15,a16,a17,a18,a19,a20,a21,a22,(),0,(),(),(),()))else
(jD a8 a9 a10 a11 a12 a13 a14 a15).bind λ(x1,_)=>
bif(!x1)then(some (true,a0,a1,a2,a3,a4,a5,a6,a7,a8,a9,a10,a11,a12,a13,a14,a15,a16,a17,a18,a19,a20,a21,a22,(),0,(),(),(),()))else
bif(a9 != 1)then(some (true,a0,a1,a2,a3,a4,a5,a6,a7,a8,a9,a10,a11,a12,a13,a14,a15,a16,a17,a18,a19,a20,a21,a22,(),0,(),(),(),()))else
let x2:=dM a14.length;
(gj a13).bind λ(x3,_)=>
bif(x2 != x3)then(some (true,a0,a1,a2,a3,a4,a5,a6,a7,a8,a9,a10,a11,a12,a13,a14,a15,a16,a17,a18,a19,a20,a21,a22,(),0,(),(),(),()))else
(jz a16 a17 a18 a19 a20 a21 a22).bind λ(x4,_)=>
bif(!x4)then(some (true,a0,a1,a2,a3,a4,a5,a6,a7,a8,a9,a10,a11,a12,a13,a14,a15,a16,a17,a18,a19,a20,a21,a22,(),0,(),(),(),()))else
(d7 a8).bind λx5=>
(dI a7 x5).bind λx6=>
some ((x6.1 != 2),a0,a1,a2,a3,a4,a5,a6,a7,a8,a9,a10,a11,a12,a13,a14,a15,a16,a17,a18,a19,a20,a21,a22,(),0,(),(),(),()):Option (Bool×LDIn×LI×LLI×LI×Int×LDCe×LDLn×LDTh×Int×Int×Int×Int×Int×Int×LDCn×LDCn×T28)).bind λ(x0,x1,x2,x3,x4,x5,x6,x7,x8,x9,ac,ae,af,ah,ai,aj,ak,am,an,ap,aq,av,ax,ay,_)=>
bif x0 then(some (x4,x5,x6,x7,x8,false,()))else
(hZ x4 x5 x6 x7 x8).bind λ(aF,aG,aH,aI,aJ,_)=>
bif(ai==0)then((d7 x9).bind λaK=>
(dI aJ aK).bind λaL=>
(dI aJ aK).bind λaM=>
(dI aj 0).bind λaO=>
(dI aJ aK).bind λaP=>
(lW aM.1 aP.2.1 aM.2.2.1 aM.2.2.2.1 aM.2.2.2.2.1 aM.2.2.2.2.2.1 aM.2.2.2.2.2.2.1 aM.2.2.2.2.2.2.2 0 aO.2.1).bind λ(aQ,aR,aS,aT,aU,aV,aW,aY,_)=>
(d7 x9).bind λaZ=>
(dI aJ aZ).bind λba=>
(dI aJ aZ).bind λbc=>
let bd:=(List.modify aJ aZ λe=>(aQ,(aR,(aS,(aT,(aU,(aV,(aW,aY))))))));
some (aF,aG,aH,aI,bd,true,()))else
bif ay then((d7 x9).bind λaK=>
(dI aJ aK).bind λaL=>
(dI aJ aK).bind λaM=>
let aO:=List.modify aJ aK λe=>(3,e.2);
some (aF,aG,aH,aI,aO,true,()))else
(nz x1 x2 x3 x9 ac ae af ah ai aj ak am an ap aq av ax ay aF aG aH aI aJ).bind λ(aK,aL,aM,aO,aP,aQ,_)=>
bif(!aK)then(some (x4,x5,x6,x7,x8,false,()))else
some (aL,aM,aO,aP,aQ,true,())
def Cx:X.Cfg:=⟨E0,[lG,nV,km,nU,kU,qz,vA],[],[⟨2,0,qE,[(.normal,qS [zaa 4,zaa 5,zaa 6,zaa 7,zaa 8,Xaa 48] [(10,uab),(12,yac),(14,Zac),(16,zaf),(18,Zab)])]⟩]⟩
def vB:Ctr:=⟨151,99,[.agg uab,.agg yac,.agg Zac,.agg zaf],[],[⟨yak,[.agg 5,.one],[]⟩],ap23 nA⟩
theorem Cj:Lk 5 vB:=ls Cx (aC nM (aC qX (aC ne (aC qW (aC mK (aC uK (aC Ci aN)))))))
def kL(a0:LDIn)(a1:List (Int))(a2:List LI)(a3:List (Int))(a4:Int)(a5:LDCe)(a6:LDLn)(a7:LDTh)(a8:Int)(a9:Int)(a10:Int)(a11:Int)(a12:Int)(a13:LDCn)(a14:Int)(a15:Bool):Option (T10):=
((iv a0 a1 a2 a3 a4 a5 a6 a7).bind λ(x0,_)=>
bif(!x0)then(some (a8,true,a0,a1,a2,a3,a4,a5,a6,a7,a9,a10,a11,a12,a13,a14,a15,(),0,(),(),(),()))else
(jz a9 a10 a11 a12 a13 a14 a15).bind λ(x1,_)=>
bif(!x1)then(some (a8,true,a0,a1,a2,a3,a4,a5,a6,a7,a9,a10,a11,a12,a13,a14,a15,(),0,(),(),(),()))else
bif(decide (a8<0))then(some (a8,true,a0,a1,a2,a3,a4,a5,a6,a7,a9,a10,a11,a12,a13,a14,a15,(),0,(),(),(),()))else
bif(decide (a8>=4))then(some (a8,true,a0,a1,a2,a3,a4,a5,a6,a7,a9,a10,a11,a12,a13,a14,a15,(),0,(),(),(),()))else
(d7 a8).bind λx2=>
(dI a7 x2).bind λx3=>
some (a8,(x3.1 != 3),a0,a1,a2,a3,a4,a5,a6,a7,a9,a10,a11,a12,a13,a14,a15,(),0,(),(),(),()):Option (Int×Bool×LDIn×LI×LLI×LI×Int×LDCe×LDLn×LDTh×T28)).bind λ(x0,x1,x2,x3,x4,x5,x6,x7,x8,x9,ac,ae,af,ah,_)=>
bif x1 then(some (x5,x6,x7,x8,x9,false,()))else
(fX x5 x6 x3 ac ae af ah).bind λ(ax,ay,az,_)=>
bif(az != 0)then(some (x5,x6,x7,x8,x9,false,()))else
(hZ x5 x6 x7 x8 x9).bind λ(aA,aB,aD,aE,aF,_)=>
(d7 x0).bind λaG=>
(dI aF aG).bind λaH=>
(dI aF aG).bind λaI=>
(dI aF aG).bind λaJ=>
(dI aJ.2.1 0).bind λaK=>
(dI aF aG).bind λaL=>
(dI aL.2.1 0).bind λaM=>
let aO:=(List.modify aF aG λe=>(e.1,((List.modify e.2.1 0 λe=>(ax,ay)),e.2.2)));
(d7 x0).bind λaP=>
(dI aO aP).bind λaQ=>
(dI aO aP).bind λaR=>
let aS:=List.modify aO aP λe=>(1,e.2);
some (aA,aB,aD,aE,aS,true,())
def A2:X.Cfg:=⟨E0,[lG,nU,nZ,kU],[],[⟨2,0,qE,[(.normal,qS [Uaa 2,zaa 4,zaa 5,zaa 7,zaa 8,Xaa 38] [(10,uab),(12,yac),(16,zaf),(18,Zab)])]⟩]⟩
def pd:Ctr:=⟨15,100,[.agg uab,.agg yac,shU I64,.agg zaf],[],[⟨yak,[.agg 5,.one],[]⟩],ap16 kL⟩
theorem sK:Lk 5 pd:=ls A2 (aC nM (aC qW (aC qu (aC mK aN))))
def mo(a0:Int)(a1:Int)(a2:LDIn)(a3:List (Int))(a4:List LI)(a5:List (Int))(a6:Int)(a7:LDCe)(a8:LDLn)(a9:LDTh)(a10:List (Int))(a11:List (Int))(a12:List LI)(a13:List LDCn)(a14:LDOp)(a15:LDOu)(a16:List (Int))(a17:List LI)(a18:LDEn)(a19:List (Int)):Option (T2w):=
let x0:=wk .i64 a1;
(dZ x0 true).bind λ(x1,x2,x3,x4,x5,x6,x7,_)=>
(kL a2 a3 a4 a5 a6 a7 a8 a9 a0 x1 x2 x3 x4 [] x6 x7).bind λ(x8,x9,ac,ae,af,ah,_)=>
let ai:LDEn:=[(4,(a0,(0,(0,(0,(0,(0,(0,(0,([],([],(x1,(x2,(x3,(x4,([],(x6,x7)))))))))))))))))];
bif(dY 184 a18.length ai.length)then let aj:LDEn:=(List.append a18 ai);
some (a2,a3,a4,x8,x9,ac,ae,af,a10,a11,a12,a13,a14,a15,a16,a17,aj,a19,())else none
def AL:X.Cfg:=⟨E0,[jV,pd],[(35,If),(36,If)],[]⟩
def sZ:Ctr:=⟨152,101,[.ptr ⟨2,0,[]⟩ [0],shU I64,shU CW],[(2,Xac)],[⟨[],[],[(2,Xac)]⟩],ap20 mo⟩
theorem As:Lk 6 sZ:=ls AL (aC lB (aC sK aN))
def iI(a0:Int)(a1:Int)(a2:Int)(a3:Int)(a4:Int)(a5:Int)(a6:LDCn)(a7:LDCn)(a8:LDIn)(a9:List (Int))(a10:List LI)(a11:List (Int))(a12:Int)(a13:LDCe)(a14:LDLn)(a15:LDTh)(a16:List (Int))(a17:List (Int))(a18:List LI)(a19:List LDCn)(a20:LDOp)(a21:LDOu)(a22:List (Int))(a23:List LI)(a24:LDEn)(a25:List (Int)):Option (T2w):=
(bif(a5==9)then((dI a6 0).bind λx0=>
let x1:=wk .i64 x0.2.1;
(jd a22 a23 x1 a0).bind λ(x2,x3,x4,x5,_)=>
some (x4,a8,a9,a10,a11,a12,a13,a14,a15,a16,a17,a18,a19,a20,a21,a22,a23,a24,a25,a0,a1,a2,a3,a4,a5,a6,a7,()))else
some ((-1),a8,a9,a10,a11,a12,a13,a14,a15,a16,a17,a18,a19,a20,a21,a22,a23,a24,a25,a0,a1,a2,a3,a4,a5,a6,a7,()):Option (Int×LDIn×LI×LLI×LI×Int×LDCe×LDLn×LDTh×LI×LI×LLI×LLCn×LDOp×LDOu×LI×LLI×LDEn×LI×T1k)).bind λ(x0,x1,x2,x3,x4,x5,x6,x7,x8,x9,ac,ae,af,ah,ai,aj,ak,am,an,ap,aq,av,ax,ay,az,aA,aB,_)=>
(jt ap aq av ax ay az aA aB x1 x2 x3 x4 x5 x6 x7 x8 x9 ac ae af ah ai aj ak am an).bind λ(aD,aE,aF,aG,aH,aI,aJ,aK,aL,aM,aO,aP,aQ,aR,aS,aT,aU,aV,aW,aY,aZ,ba,bc,bd,be,_)=>
(nA aK aL aM aO aP aQ aR aS ap aq av ax ay az aA aB aD aE aF aG aH aI aJ).bind λ(bf,bg,bh,bi,bj,bk,_)=>
let bl:LDEn:=[(2,(ap,(0,(ap,(aq,(av,(ax,(ay,(az,(aA,(aB,(aD,(aE,(aF,(aG,(aH,(aI,aJ)))))))))))))))))];
bif(dY 184 bd.length bl.length)then let bm:LDEn:=(List.append bd bl);
bif(decide (x0>=0))then((mo x0 0 aK aL aM bf bg bh bi bj aT aU aV aW aY aZ ba bc bm be).bind λ(bn)=>
some (bn))else
some (aK,aL,aM,bf,bg,bh,bi,bj,aT,aU,aV,aW,aY,aZ,ba,bc,bm,be,())else none
def ww:X.Cfg:=⟨E0,[mO,o6,vB,sZ],[(56,If),(57,If)],[⟨2,0,qE,[(.normal,qS [zaa 0,zaa 3,Uaa 4] [(2,Xac),(8,Zac)])]⟩]⟩
def qf:Ctr:=⟨111,102,[.ptr ⟨2,0,[]⟩ [0],.agg Zac],[(2,Xac)],[⟨[],[],[(2,Xac)]⟩],ap26 iI⟩
theorem we:Lk 7 qf:=ls ww (aC oT (aC uE (aC Cj (aC As aN))))
def oG:T29->Option (T29⊕(Int×Int×Int×Int×Nat×T1h)):=λ(v0,v1,v2,v3,v4,v5,v6,v7,v8,v9,v10,v11,_)=>
bif(decide (v6<v5))then(((d7 v6).bind λx0=>
(dI v10 v4).bind λx1=>
(dI x1 x0).bind λx2=>
(dI v10 v4).bind λx3=>
(dI x3 x0).bind λx4=>
bif(x4 != v0)then(bif(dY 8 v11.length (List.length [x4]))then let x5:List (Int):=(List.append v11 [x4]);
some (v0,v1,v2,v3,v4,v5,v6,v7,v8,v9,v10,x5,())else none)else
some (v0,v1,v2,v3,v4,v5,v6,v7,v8,v9,v10,v11,()):Option (T29)).bind λ(x0,x1,x2,x3,x4,x5,x6,x7)=>
let af:=w64 (x6+1);
some (.inl (x0,x1,x2,x3,x4,x5,af,x7)))else
some (.inr (v0,v1,v2,v3,v4,v5,v6,false,v7,v8,v9,v10,v11,()))
def oF:T19->Option (T19⊕(Int×T15)):=λ(v0,v1,v2,v3,v4,v5,v6,_)=>
bif(decide (v2<v1))then((d7 v2).bind λx0=>
(dI v6 x0).bind λx1=>
(dI v6 x0).bind λx2=>
(dI v6 x0).bind λx3=>
let x4:=dM x3.length;
(dU oG NN (v0,v2,v1,v2,x0,x4,0,v3,v4,v5,v6,[],())).bind λ(x5,x6,x7,x8,x9,ac,ae,af,ah,ai,aj,ak,am,_)=>
(d7 x6).bind λan=>
(dI ak an).bind λap=>
(dI ak an).bind λaq=>
let av:=List.modify ak an λe=>am;
let ax:=w64 (x8+1);
some (.inl (x5,x7,ax,ah,ai,aj,av,())))else
some (.inr (v0,v1,v2,false,v3,v4,v5,v6,()))
def oE:T1m->Option (T1m⊕(Int×T1h)):=λ(v0,v1,v2,v3,v4,v5,v6,v7,_)=>
bif(decide (v2<v1))then((jd v5 v6 v2 v0).bind λ(x0,x1,x2,x3,_)=>
(bif x3 then(bif(decide (x2>=0))then(bif(dY 8 v7.length (List.length [x2]))then let x4:List (Int):=(List.append v7 [x2]);
some (v0,v1,v2,v3,v4,v5,v6,x4,x0,x1,())else none)else
some (v0,v1,v2,v3,v4,v5,v6,v7,x0,x1,()))else
some (v0,v1,v2,v3,v4,v5,v6,v7,x0,x1,()):Option (Int×Int×Int×Unit×Unit×LI×LLI×LI×T07)).bind λ(x4,x5,x6,x7,x8,x9,ac,ae,af,ah,_)=>
let ai:=w64 (x6+1);
some (.inl (x4,x5,ai,x7,x8,af,ah,ae,())))else
some (.inr (v0,v1,v2,false,v3,v4,v5,v6,v7,()))
def my(a0:List (Int))(a1:List LI)(a2:Int):Option (T0j):=
(kK a0 a1).bind λ(x0,x1,_)=>
let x2:=dM x1.length;
(dU oF NN (a2,x2,0,(),(),x0,x1,())).bind λ(x3,x4,x5,x6,x7,x8,x9,ac,_)=>
let ae:=dM x9.length;
(dU oE NN (x3,ae,0,x7,x8,x9,ac,[],())).bind λ(af,ah,ai,aj,ak,am,an)=>
some (an)
def AY:X.Cfg:=⟨E0,[mP,mO],[],[⟨15,0,qE,[(.normal,(qS [Uaa 1,zaa 4,zaa 6,Uaa 7,Zaa 9 21,(20,.pk ⟨14,1,[]⟩ [0,0]),Uaa 21,Uaa 22,(27,.pk ⟨14,1,[((),(1,0))]⟩ [0,0,0]),Uaa 28,Uaa 29] [(10,Xab),(14,zae),(21,yae)]))]⟩,⟨12,1,(qS [Uaa 1,zaa 4,zaa 6,Uaa 7,Zaa 9 21,(20,.pk ⟨14,1,[]⟩ [0,0]),Uaa 21,Uaa 22,(27,.pk ⟨14,1,[((),(1,0))]⟩ [0,0,0]),Uaa 28,Uaa 29] [(10,Xab),(14,zae),(21,yae)]),[(.exit 2,(qS [Uaa 1,zaa 4,zaa 6,Uaa 7,Zaa 9 21,(20,.pk ⟨14,1,[]⟩ [0,0]),Uaa 21,Uaa 22,(27,.pk ⟨14,1,[((),(1,0))]⟩ [0,0,0]),Uaa 28,Uaa 29,Xaa 30] [(10,Xab),(14,zae),(21,yae)]))]⟩,(lx 4 2 [Uaa 1,zaa 4,zaa 6,(20,.pk ⟨14,1,[]⟩ [0,0]),Uaa 21,Uaa 22] [(10,Xab),(14,zae)] 23),⟨27,3,qE,[(.normal,qS [Uaa 1,zaa 4,zaa 6,Zaa 12 27,zaa 14,Uaa 49,Uaa 50] [(10,Xab),(14,uaf),(27,yae),(30,uaf)])]⟩,⟨21,4,qS [Uaa 1,zaa 4,zaa 6,Zaa 12 27,Uaa 49,Uaa 50] [(10,Xab),(14,uaf),(27,yae)],[(.exit 4,qS [Uaa 1,zaa 4,zaa 6,Zaa 12 27,Uaa 49,Uaa 50,Xaa 51] [(10,Xab),(14,uaf),(27,yae)])]⟩]⟩
def tk:Ctr:=⟨153,103,[.agg uaf,shU I64],[],[⟨uL [RI,(yaa RI),(uaa I64)],[.agg 2,.one],[]⟩],ap3 my⟩
theorem AA:Lk 3 tk:=ls AY (aC oU (aC oT aN))
def iH(a0:Int)(a1:Int)(a2:LDIn)(a3:List (Int))(a4:List LI)(a5:List (Int))(a6:Int)(a7:LDCe)(a8:LDLn)(a9:LDTh)(a10:List (Int))(a11:List (Int))(a12:List LI)(a13:List LDCn)(a14:LDOp)(a15:LDOu)(a16:List (Int))(a17:List LI)(a18:LDEn):Option (LDIn×LI×LLI×LI×Int×LDCe×LDLn×LDTh×LI×LI×LLI×LLCn×LDOp×LDOu×LI×LLI×LDEn×Unit):=
let x0:=wk .i64 a1;
(dZ x0 true).bind λ(x1,x2,x3,x4,x5,x6,x7,_)=>
(kL a2 a3 a4 a5 a6 a7 a8 a9 a0 x1 x2 x3 x4 [] x6 x7).bind λ(x8,x9,ac,ae,af,ah,_)=>
let ai:LDEn:=[(4,(a0,(0,(0,(0,(0,(0,(0,(0,([],([],(x1,(x2,(x3,(x4,([],(x6,x7)))))))))))))))))];
bif(dY 184 a18.length ai.length)then let aj:LDEn:=(List.append a18 ai);
some (a2,a3,a4,x8,x9,ac,ae,af,a10,a11,a12,a13,a14,a15,a16,a17,aj,())else none
def wt:X.Cfg:=⟨E0,[jV,pd],[(35,If),(36,If)],[]⟩
def qc:Ctr:=⟨152,104,[.ptr ⟨2,0,[]⟩ [0],shU I64,shU CW],[(2,zak)],[⟨[],[],[(2,zak)]⟩],ap19 iH⟩
theorem vY:Lk 6 qc:=ls wt (aC lB (aC sK aN))
def od:T2I->Option (T2I⊕(Int×Int×Int×Bool×T2A)):=λ(v0,v1,v2,v3,v4,v5,v6,v7,v8,v9,v10,v11,v12,v13,v14,v15,v16,v17,v18,v19,v20,v21,_)=>
bif(decide (v2<v1))then((d7 v2).bind λx0=>
(dI v21 x0).bind λx1=>
(dI v21 x0).bind λx2=>
(iH x2 0 v3 v4 v5 v6 v7 v8 v9 v10 v11 v12 v13 v14 v15 v16 v17 v18 v19).bind λ(x3,x4,x5,x6,x7,x8,x9,ac,ae,af,ah,ai,aj,ak,am,an,ap,_)=>
let aq:=w64 (v2+1);
some (.inl (v0,v1,aq,x3,x4,x5,x6,x7,x8,x9,ac,ae,af,ah,ai,aj,ak,am,an,ap,v20,v21,())))else
some (.inr (v0,v1,v2,false,v3,v4,v5,v6,v7,v8,v9,v10,v11,v12,v13,v14,v15,v16,v17,v18,v19,v20,v21,()))
def oc:T2H->Option (T2H⊕(Int×Int×T2C)):=λ(v0,v1,v2,v3,v4,v5,v6,v7,v8,v9,v10,v11,v12,v13,v14,v15,v16,v17,v18,v19,v20,_)=>
bif(decide (v2<v1))then(((d7 v2).bind λx0=>
(dI v20 x0).bind λx1=>
(dI v20 x0).bind λx2=>
bif(x2==v0)then((d7 v0).bind λx3=>
(dI v10 x3).bind λx4=>
(iH v2 x4.2.2.2.2.2.2.2 v3 v4 v5 v6 v7 v8 v9 v10 v11 v12 v13 v14 v15 v16 v17 v18 v19).bind λ(x5,x6,x7,x8,x9,ac,ae,af,ah,ai,aj,ak,am,an,ap,aq,av,_)=>
(d7 v2).bind λax=>
(dI v20 ax).bind λay=>
(dI v20 ax).bind λaz=>
let aA:=List.modify v20 ax λe=>(-1);
some (v0,v1,v2,x5,x6,x7,x8,x9,ac,ae,af,ah,ai,aj,ak,am,an,ap,aq,av,aA,()))else
some (v0,v1,v2,v3,v4,v5,v6,v7,v8,v9,v10,v11,v12,v13,v14,v15,v16,v17,v18,v19,v20,()):Option (T2H)).bind λ(x0,x1,x2,x3,x4,x5,x6,x7,x8,x9,ac,ae,af,ah,ai,aj,ak,am,an,ap,aq,_)=>
let av:=w64 (x2+1);
some (.inl (x0,x1,av,x3,x4,x5,x6,x7,x8,x9,ac,ae,af,ah,ai,aj,ak,am,an,ap,aq,())))else
some (.inr (v0,v1,v2,false,v3,v4,v5,v6,v7,v8,v9,v10,v11,v12,v13,v14,v15,v16,v17,v18,v19,v20,()))
def ju(a0:Int)(a1:LDIn)(a2:List (Int))(a3:List LI)(a4:List (Int))(a5:Int)(a6:LDCe)(a7:LDLn)(a8:LDTh)(a9:List (Int))(a10:List (Int))(a11:List LI)(a12:List LDCn)(a13:LDOp)(a14:LDOu)(a15:List (Int))(a16:List LI)(a17:LDEn)(a18:List (Int)):Option (T2w):=
(my a15 a16 a0).bind λ(x0,x1,x2,_)=>
let x3:=dM x2.length;
(dU od NN (a0,x3,0,a1,a2,a3,a4,a5,a6,a7,a8,a9,a10,a11,a12,a13,a14,x0,x1,a17,a18,x2,())).bind λ(x4,x5,x6,x7,x8,x9,ac,ae,af,ah,ai,aj,ak,am,an,ap,aq,av,ax,ay,az,aA,aB,_)=>
let aD:=dM aA.length;
(dU oc NN (x4,aD,0,x8,x9,ac,ae,af,ah,ai,aj,ak,am,an,ap,aq,av,ax,ay,az,aA,())).bind λ(aE,aF,aG,aH,aI)=>
some (aI)
def yH:X.Cfg:=⟨E0,[tk,qc],[],[(lx 4 0 [zaa 0,Uaa 1,Zaa 23 13,Uaa 24,Uaa 25] [(2,Xac),(13,yae)] 26),⟨13,1,qE,[(.normal,(qS [zaa 0,Uaa 1,(36,.pk ⟨2,17,[]⟩ [0,0]),Uaa 37,Uaa 38] [(2,Xac)]))]⟩,⟨10,2,(qS [zaa 0,Uaa 1,(36,.pk ⟨2,17,[]⟩ [0,0]),Uaa 37,Uaa 38] [(2,Xac)]),[(.exit 2,(qS [zaa 0,Uaa 1,(36,.pk ⟨2,17,[]⟩ [0,0]),Uaa 37,Uaa 38,Xaa 39] [(2,Xac)]))]⟩]⟩
def rl:Ctr:=⟨112,105,[.ptr ⟨2,0,[]⟩ [0],shU I64],[(2,Xac)],[⟨[],[],[(2,Xac)]⟩],ap19 ju⟩
theorem yh:Lk 7 rl:=ls yH (aC AA (aC vY aN))
def mp(a0:LDIn)(a1:List (Int))(a2:List LI)(a3:List (Int))(a4:Int)(a5:LDCe)(a6:LDLn)(a7:LDTh)(a8:List (Int))(a9:List (Int))(a10:List LI)(a11:List LDCn)(a12:LDOp)(a13:LDOu)(a14:List (Int))(a15:List LI)(a16:LDEn)(a17:List (Int))(a18:Int)(a19:Int)(a20:Bool):Option (LDIn×LI×LLI×LI×Int×LDCe×LDLn×LDTh×LI×LI×LLI×LLCn×LDOp×LDOu×LI×LLI×LDEn×T06):=
(ll a7).bind λ(x0,_)=>
let x1:=dM x0.length;
bif(x1==0)then(some ([],[],[],[],0,[],[],[],[],[],[],[],[],[],[],[],[],[],15,()))else
let x2:=dM a16.length;
bif(decide (x2>192))then(some ([],[],[],[],0,[],[],[],[],[],[],[],[],[],[],[],[],[],3,()))else
let x3:=dM x0.length;
(i9 a18 x3).bind λ(x4,_)=>
(d7 x4).bind λx5=>
(dI x0 x5).bind λx6=>
(dI x0 x5).bind λx7=>
(i9 a19 64).bind λ(x8,_)=>
let x9:=w64 (1+x8);
(ko a0 a1 a2 a3 a4 a5 a6 a7 a8 a9 a10 a11 a12 a13 a14 a15 a16 a17).bind λ(ac,ae,af,ah,ai,aj,ak,am,an,ap,aq,av,ax,ay,az,aA,aB,aD,_)=>
(match(bif a20 then((lT ah ai aj ak am x7).bind λ(aE,_)=>
bif aE then((jy ah ai aj ak am x7).bind λ(aF,aG,aH,aI,aJ,aK,_)=>
let aL:LDEn:=[(3,(x7,(0,(0,(0,(0,(0,(0,(0,([],([],(0,(0,(0,(0,([],(0,false)))))))))))))))))];
bif(dY 184 aB.length aL.length)then let aM:LDEn:=(List.append aB aL);
some (.inl (x7,x9,(),(),(),(),0,(),(),(),(),(),(),(),(),(),(),(),(),(),ac,ae,af,aF,aG,aH,aI,aJ,an,ap,aq,av,ax,ay,az,aA,aM,aD,()))else none)else
some (.inr (x7,x9,(),(),(),(),0,(),(),(),(),(),(),(),(),(),(),(),(),(),ac,ae,af,ah,ai,aj,ak,am,an,ap,aq,av,ax,ay,az,aA,aB,aD,())))else
some (.inr (x7,x9,(),(),(),(),0,(),(),(),(),(),(),(),(),(),(),(),(),(),ac,ae,af,ah,ai,aj,ak,am,an,ap,aq,av,ax,ay,az,aA,aB,aD,())):Option (T3b⊕T3b))with
|none=>none
|some (.inl (aE,aF,aG,aH,aI,aJ,aK,aL,aM,aO,aP,aQ,aR,aS,aT,aU,aV,aW,aY,aZ,ba,bc,bd,be,bf,bg,bh,bi,bj,bk,bl,bm,bn,bo,bp,bq,bt,bv,_))=>
(kN ba bc bd be bf bg bh bi aE aF).bind λ(bx,bA,bB,bC,bD,bE,bF,bG,bH,bI,bJ,bK,bL,bM,_)=>
let bN:LDEn:=[(1,(aE,(aF,(bE,(bF,(bG,(bH,(bI,(bJ,(bK,(bL,(0,(0,(0,(0,([],(0,false)))))))))))))))))];
bif(dY 184 bt.length bN.length)then let bO:LDEn:=(List.append bt bN);
(bif(bF==1)then((iI bE bF bG bH bI bJ bK bL ba bc bd bx bA bB bC bD bj bk bl bm bn bo bp bq bO bv).bind λ(bP,bQ,bR,bS,bT,bU,bV,bW,bY,bZ,b8,b9,ca,cb,cd,cf,cg,ch,_)=>
some (aE,aG,aH,aI,aJ,aK,aL,aM,aO,aP,aQ,aR,aS,aT,aU,aV,aW,aY,aZ,bP,bQ,bR,bS,bT,bU,bV,bW,bY,bZ,b8,b9,ca,cb,cd,cf,cg,ch,()))else
some (aE,aG,aH,aI,aJ,aK,aL,aM,aO,aP,aQ,aR,aS,aT,aU,aV,aW,aY,aZ,ba,bc,bd,bx,bA,bB,bC,bD,bj,bk,bl,bm,bn,bo,bp,bq,bO,bv,()):Option (T34)).bind λ(bP,bQ,bR,bS,bT,bU,bV,bW,bY,bZ,b8,b9,ca,cb,cd,cf,cg,ch,ci,cj,cl,cn,cq,cr,cu,cw,cx,cy,cz,cD,cE,cF,cG,cH,cI,cJ,cK,_)=>
((d7 bP).bind λcL=>
(dI cx cL).bind λcM=>
bif(cM.1==4)then((ju bP cj cl cn cq cr cu cw cx cy cz cD cE cF cG cH cI cJ cK).bind λ(cN,cO,cP,cQ,cR,cS,cT,cU,cV,cW,cX,cY,cZ,c7,c8,c9,dc,de,_)=>
some (bQ,bR,bS,bT,bU,bV,bW,bY,bZ,b8,b9,ca,cb,cd,cf,cg,ch,ci,cN,cO,cP,cQ,cR,cS,cT,cU,cV,cW,cX,cY,cZ,c7,c8,c9,dc,de,()))else
some (bQ,bR,bS,bT,bU,bV,bW,bY,bZ,b8,b9,ca,cb,cd,cf,cg,ch,ci,cj,cl,cn,cq,cr,cu,cw,cx,cy,cz,cD,cE,cF,cG,cH,cI,cJ,cK,()):Option (T31)).bind λ(cL,cM,cN,cO,cP,cQ,cR,cS,cT,cU,cV,cW,cX,cY,cZ,c7,c8,c9,dc,de,df,dg,dh,dk,dl,dm,dn,dp,dq,dx,dy,dz,dA,dB,dC,dD,_)=>
some (dc,de,df,dg,dh,dk,dl,dm,dn,dp,dq,dx,dy,dz,dA,dB,dC,dD,0,())else none
|some (.inr (aE,aF,aG,aH,aI,aJ,aK,aL,aM,aO,aP,aQ,aR,aS,aT,aU,aV,aW,aY,aZ,ba,bc,bd,be,bf,bg,bh,bi,bj,bk,bl,bm,bn,bo,bp,bq,bt,bv,_))=>
(kN ba bc bd be bf bg bh bi aE aF).bind λ(bx,bA,bB,bC,bD,bE,bF,bG,bH,bI,bJ,bK,bL,bM,_)=>
let bN:LDEn:=[(1,(aE,(aF,(bE,(bF,(bG,(bH,(bI,(bJ,(bK,(bL,(0,(0,(0,(0,([],(0,false)))))))))))))))))];
bif(dY 184 bt.length bN.length)then let bO:LDEn:=(List.append bt bN);
(bif(bF==1)then((iI bE bF bG bH bI bJ bK bL ba bc bd bx bA bB bC bD bj bk bl bm bn bo bp bq bO bv).bind λ(bP,bQ,bR,bS,bT,bU,bV,bW,bY,bZ,b8,b9,ca,cb,cd,cf,cg,ch,_)=>
some (aE,aG,aH,aI,aJ,aK,aL,aM,aO,aP,aQ,aR,aS,aT,aU,aV,aW,aY,aZ,bP,bQ,bR,bS,bT,bU,bV,bW,bY,bZ,b8,b9,ca,cb,cd,cf,cg,ch,()))else
some (aE,aG,aH,aI,aJ,aK,aL,aM,aO,aP,aQ,aR,aS,aT,aU,aV,aW,aY,aZ,ba,bc,bd,bx,bA,bB,bC,bD,bj,bk,bl,bm,bn,bo,bp,bq,bO,bv,()):Option (T34)).bind λ(bP,bQ,bR,bS,bT,bU,bV,bW,bY,bZ,b8,b9,ca,cb,cd,cf,cg,ch,ci,cj,cl,cn,cq,cr,cu,cw,cx,cy,cz,cD,cE,cF,cG,cH,cI,cJ,cK,_)=>
((d7 bP).bind λcL=>
(dI cx cL).bind λcM=>
bif(cM.1==4)then((ju bP cj cl cn cq cr cu cw cx cy cz cD cE cF cG cH cI cJ cK).bind λ(cN,cO,cP,cQ,cR,cS,cT,cU,cV,cW,cX,cY,cZ,c7,c8,c9,dc,de,_)=>
some (bQ,bR,bS,bT,bU,bV,bW,bY,bZ,b8,b9,ca,cb,cd,cf,cg,ch,ci,cN,cO,cP,cQ,cR,cS,cT,cU,cV,cW,cX,cY,cZ,c7,c8,c9,dc,de,()))else
some (bQ,bR,bS,bT,bU,bV,bW,bY,bZ,b8,b9,ca,cb,cd,cf,cg,ch,ci,cj,cl,cn,cq,cr,cu,cw,cx,cy,cz,cD,cE,cF,cG,cH,cI,cJ,cK,()):Option (T31)).bind λ(cL,cM,cN,cO,cP,cQ,cR,cS,cT,cU,cV,cW,cX,cY,cZ,c7,c8,c9,dc,de,df,dg,dh,dk,dl,dm,dn,dp,dq,dx,dy,dz,dA,dB,dC,dD,_)=>
some (dc,de,df,dg,dh,dk,dl,dm,dn,dp,dq,dx,dy,dz,dA,dB,dC,dD,0,())else none)
def AM:X.Cfg:=⟨E0,[rC,qA,qe,qy,pb,tn,qf,rl],[(60,If),(61,If),(82,If),(83,If)],[⟨11,0,qE,[(.normal,(qS [zaa 4,Uaa 7,Uaa 8,zaa 9] [(10,Uag),(20,uL [fc,RI,(yaa RW),RI,CW,(uaa KCe),jm,ov,RW,RW,(yaa RW),(yaa d9),gu,iG,RI,(yaa RI),(uaa qC),(uaa I64)])])),(.normal,qS [zaa 4,Uaa 7,Uaa 8,zaa 9] [(10,Uag),(20,Xac)])]⟩,⟨17,1,qE,[(.normal,qS [zaa 4,Uaa 7,zaa 9] [(10,Uag),(20,Xac)])]⟩,⟨19,2,qE,[(.normal,qS [zaa 4,zaa 9] [(10,Uag),(20,Xac)])]⟩]⟩
def s6:Ctr:=⟨52,106,[.agg Zae,.agg Uah],[],[⟨uL [fc,RI,(yaa RW),RI,CW,eZ,fr,fN,RW,RW,(yaa RW),(yaa d9),gu,iG,RI,(yaa RI),(uaa qC),(uaa I64),I64],[.agg 18,.one],[]⟩],ap21 mp⟩
theorem At:Lk 8 s6:=ls AM (aC yv (aC uO (aC wd (aC uI (aC uH (aC AB (aC we (aC yh aN))))))))
def nH:T3f->Option (T3f⊕((Int×Bool×LI×Int×Unit×Unit×Unit×Unit×Int×Unit×Unit×Unit×Unit×Unit×Unit×Unit×Unit×Unit×Unit×Unit×Unit×Unit×LDIn×LI×LLI×LI×Int×LDCe×LDLn×LDTh×LI×LI×LLI×LLCn×LDOp×LDOu×LI×LLI×LDEn×LI×T2w)⊕(Int×Bool×T3c))):=λ(v0,v1,v2,v3,v4,v5,v6,v7,v8,v9,v10,v11,v12,v13,v14,v15,v16,v17,v18,v19,v20,v21,v22,v23,v24,v25,v26,v27,v28,v29,v30,v31,v32,v33,v34,v35,v36,v37,v38,_)=>
bif(decide (v0>0))then((ly v1 v2).bind λ(x0,x1,x2,x3,x4,_)=>
(mp v21 v22 v23 v24 v25 v26 v27 v28 v29 v30 v31 v32 v33 v34 v35 v36 v37 v38 x0 x1 x2).bind λ(x5,x6,x7,x8,x9,ac,ae,af,ah,ai,aj,ak,am,an,ap,aq,av,ax,ay,_)=>
bif(ay != 0)then(some (.inr (.inl (v0,true,x3,x4,v3,v4,v5,v6,v7,v8,v9,v10,v11,v12,v13,v14,v15,v16,v17,v18,v19,v20,v21,v22,v23,v24,v25,v26,v27,v28,v29,v30,v31,v32,v33,v34,v35,v36,v37,v38,x5,x6,x7,x8,x9,ac,ae,af,ah,ai,aj,ak,am,an,ap,aq,av,ax,()))))else
let az:=w64 (v0-1);
some (.inl (az,x3,x4,v3,v4,v5,v6,v7,v8,v9,v10,v11,v12,v13,v14,v15,v16,v17,v18,v19,v20,x5,x6,x7,x8,x9,ac,ae,af,ah,ai,aj,ak,am,an,ap,aq,av,ax,())))else
some (.inr (.inr (v0,false,v1,v2,v3,v4,v5,v6,v7,v8,v9,v10,v11,v12,v13,v14,v15,v16,v17,v18,v19,v20,v21,v22,v23,v24,v25,v26,v27,v28,v29,v30,v31,v32,v33,v34,v35,v36,v37,v38,())))
def pF(a0:List (Int))(a1:Int):Option (LDIn×LI×LLI×LI×Int×LDCe×LDLn×LDTh×LI×LI×LLI×LLCn×LDOp×LDOu×LI×LLI×LDEn×LI×T06):=
(kz a0 a1).bind λ(x0,x1,x2,x3,x4,_)=>
(lw x1 x3 x4).bind λ(x5,x6,x7,x8,_)=>
(kA x7 x8).bind λ(x9,ac,ae,af,ah,ai,aj,ak,_)=>
(nv x0 x1 x2 x5 x6 x9 ac ae af ah []).bind λ(am,an,ap,aq,av,ax,ay,az,aA,aB,aD,aE,aF,aG,aH,aI,aJ,aK,aL,_)=>
(dK 16 aj ak).bind λ(aM,aO,aP,_)=>
let aQ:=w64 (3+aM);
(match dU nH NN (aQ,aO,aP,(),(),(),(),0,(),(),(),(),(),(),(),(),(),(),(),(),(),am,an,ap,aq,av,ax,ay,az,aA,aB,aD,aE,aF,aG,aH,aI,[],aK,())with
|none=>none
|some (.inl (aR,aS,aT,aU,aV,aW,aY,aZ,ba,bc,bd,be,bf,bg,bh,bi,bj,bk,bl,bm,bn,bo,bp,bq,bt,bv,bx,bA,bB,bC,bD,bE,bF,bG,bH,bI,bJ,bK,bL,bM,_))=>
some (bp,bq,bt,bv,bx,bA,bB,bC,bD,bE,bF,bG,bH,bI,bJ,bK,bL,bM,aT,aU,())
|some (.inr (aR,aS,aT,aU,aV,aW,aY,aZ,ba,bc,bd,be,bf,bg,bh,bi,bj,bk,bl,bm,bn,bo,bp,bq,bt,bv,bx,bA,bB,bC,bD,bE,bF,bG,bH,bI,bJ,bK,bL,bM,_))=>
some (bp,bq,bt,bv,bx,bA,bB,bC,bD,bE,bF,bG,bH,bI,bJ,bK,bL,bM,aT,aU,()))
def Fj:X.Cfg:=⟨E0,[ql,rK,qm,rm,fv,rL,s6],[],[⟨5,0,qS [zaa 0,zaa 2,zaa 4,Uaa 6] [(2,zab),(6,Uag),(10,Xac)],[(.exit 0,qS [zaa 0,zaa 2,zaa 4,Uaa 6,zaa 7,Xaa 37] [(2,zab),(6,Uag),(10,Zae),(16,Xac)]),(.exit 0,qS [zaa 0,zaa 2,zaa 4,Uaa 6,Xaa 26] [(2,zab),(6,Uag),(10,Xac)])]⟩]⟩
def xD:Ctr:=⟨17,107,[.ptr ⟨2,0,[]⟩ [0]],[(2,zab)],[⟨Zae,[.agg 18],[(2,zab)]⟩],ap2 pF⟩
theorem Fc:Lk 9 xD:=ls Fj (aC wn (aC yD (aC wo (aC yi (aC fG (aC yE (aC At aN)))))))
def fT:T2h->Option (T2h⊕T2j):=λ(v0,v1,v2,v3,v4,v5,v6,v7,v8,v9,v10,v11,v12,_)=>
bif(decide (v6<v5))then((d7 v1).bind λx0=>
(dI v9 x0).bind λx1=>
let x2:=w64 (x1+v6);
(kO v7 v8 x2).bind λ(x3,x4,_)=>
(gD v9 v10 v0 x3 x4).bind λ(x5,x6,x7,x8,_)=>
let x9:LDCn:=[(x5,(x6,(x7,x8)))];
bif(dY 24 v12.length x9.length)then let ac:LDCn:=(List.append v12 x9);
let ae:=w64 (v6+1);
some (.inl (v0,v1,v2,v3,v4,v5,ae,v7,v8,v9,v10,v11,ac,()))else none)else
some (.inr (v0,v1,v2,v3,v4,v5,v6,false,v7,v8,v9,v10,v11,v12,()))
def fS:T1H->Option (T1H⊕T1U):=λ(v0,v1,v2,v3,v4,v5,v6,v7,v8,_)=>
bif(decide (v3<v2))then((d7 v3).bind λx0=>
(dI v1 x0).bind λx1=>
(dU fT NN (v0,v3,v1,v2,v3,x1,0,v4,v5,v6,v7,v8,[],())).bind λ(x2,x3,x4,x5,x6,x7,x8,x9,ac,ae,af,ah,ai,aj,_)=>
bif(dY 24 ai.length (List.length [aj]))then let ak:List LDCn:=(List.append ai [aj]);
let am:=w64 (x6+1);
some (.inl (x2,x4,x5,am,ac,ae,af,ah,ak,()))else none)else
some (.inr (v0,v1,v2,v3,false,v4,v5,v6,v7,v8,()))
def ia(a0:LDCe)(a1:LDLn)(a2:List (Int))(a3:Int)(a4:List (Int)):Option (LLCn×Unit):=
let x0:=dM a4.length;
(dU fS NN (a4,a4,x0,0,a0,a1,a2,a3,[],())).bind λ(x1,x2,x3,x4,x5,x6,x7,x8,x9,ac,_)=>
some (ac,())
def u3:X.Cfg:=⟨E0,[po,lI],[(41,(uaa KCn)),(42,(uaa KCn))],[⟨12,0,qS [sP 2 RI,zaa 3,zaa 4,Zaa 7 17,Uaa 8,Zaa 10 23,sP 12 RI,Uaa 13,Uaa 14,Uaa 19,Uaa 20] [(8,zad),(10,yab),(17,Uaf),(23,yag)],[(.exit 2,qS [sP 2 RI,zaa 3,zaa 4,Zaa 7 17,Uaa 8,Zaa 10 23,sP 12 RI,Uaa 13,Uaa 14,Uaa 19,Uaa 20,Xaa 21] [(8,zad),(10,yab),(17,Uaf),(23,yag)])]⟩,(lx 4 1 [sP 2 RI,zaa 3,zaa 4,Zaa 7 17,sP 12 RI,Uaa 13,Uaa 14] [(8,zad),(10,yab),(17,Uaf)] 15)]⟩
def me:Ctr:=⟨8,108,[.agg zad,.agg yab,shU RI],[],[⟨Uaf,[.one],[]⟩],ap5 ia⟩
theorem oV:Lk 3 me:=ls u3 (aC sR (aC nO aN))
def gM:T2X->Option (T2X⊕(LDTh×Int×Int×LDCe×Int×Int×Bool×T2R)):=λ(v0,v1,v2,v3,v4,v5,v6,v7,v8,v9,v10,v11,v12,v13,v14,v15,v16,v17,v18,v19,v20,v21,v22,v23,v24,v25,v26,v27,v28,v29,v30,v31,v32,v33,_)=>
bif(decide (v5<v4))then((d7 v5).bind λx0=>
(dI v3 x0).bind λx1=>
(gD v9 v10 v7 x1.1 x1.2).bind λ(x2,x3,x4,x5,_)=>
let x6:LDCn:=[(x2,(x3,(x4,x5)))];
bif(dY 24 v33.length x6.length)then let x7:LDCn:=(List.append v33 x6);
let x8:=w64 (v5+1);
some (.inl (v0,v1,v2,v3,v4,x8,v6,v7,v8,v9,v10,v11,v12,v13,v14,v15,v16,v17,v18,v19,v20,v21,v22,v23,v24,v25,v26,v27,v28,v29,v30,v31,v32,x7,()))else none)else
some (.inr (v0,v1,v2,v3,v4,v5,false,v6,v7,v8,v9,v10,v11,v12,v13,v14,v15,v16,v17,v18,v19,v20,v21,v22,v23,v24,v25,v26,v27,v28,v29,v30,v31,v32,v33,()))
def gL:T2m->Option (T2m⊕(LDTh×Int×Int×Bool×T2a)):=λ(v0,v1,v2,v3,v4,v5,v6,v7,v8,v9,v10,v11,v12,v13,v14,_)=>
bif(decide (v2<v1))then((d7 v2).bind λx0=>
(dI v0 x0).bind λx1=>
let x2:=dM x1.2.1.length;
(dU gM NN (v0,v1,v2,x1.2.1,x2,0,v3,v4,v5,v6,v7,v8,v9,v10,v11,v12,v13,v14,x1.1,x1.2.1,x1.2.2.1,x1.2.2.2.1,x1.2.2.2.2.1,x1.2.2.2.2.2.1,x1.2.2.2.2.2.2.1,x1.2.2.2.2.2.2.2,x1.1,x1.2.2.1,x1.2.2.2.1,x1.2.2.2.2.1,x1.2.2.2.2.2.1,x1.2.2.2.2.2.2.1,x1.2.2.2.2.2.2.2,[],())).bind λ(x3,x4,x5,x6,x7,x8,x9,ac,ae,af,ah,ai,aj,ak,am,an,ap,aq,av,ax,ay,az,aA,aB,aD,aE,aF,aG,aH,aI,aJ,aK,aL,aM,aO,_)=>
let aP:LDTs:=[(aG,(aH,(aI,(aJ,(aK,(aL,(aM,aO)))))))];
bif(dY 80 av.length aP.length)then let aQ:LDTs:=(List.append av aP);
let aR:=w64 (x5+1);
some (.inl (x3,x4,aR,ac,ae,af,ah,ai,aj,ak,am,an,ap,aq,aQ,()))else none)else
some (.inr (v0,v1,v2,false,v3,v4,v5,v6,v7,v8,v9,v10,v11,v12,v13,v14,()))
def lf(a0:LDIn)(a1:List (Int))(a2:List LI)(a3:List (Int))(a4:Int)(a5:LDCe)(a6:LDLn)(a7:LDTh):Option (T09):=
(ia a5 a6 a3 a4 a1).bind λ(x0,_)=>
let x1:=dM a7.length;
(dU gL NN (a7,x1,0,a0,a1,a2,a3,a4,a5,a6,a7,(),(),x0,[],())).bind λ(x2,x3,x4,x5,x6,x7,x8,x9,ac,ae,af,ah,ai,aj,ak)=>
some (ak)
def yS:X.Cfg:=⟨E0,[me,lI],[(63,Ei),(64,Ei)],[⟨12,0,qS [zaa 2,zaa 3,zaa 4,zaa 5,zaa 8,sP 20 fN,Uaa 21,Uaa 22,sP 42 eZ,Uaa 43,Uaa 44] [(6,uab),(8,yac),(10,Xab),(12,Xaf),(16,Uae),(18,Uak)],[(.exit 2,qS [zaa 2,zaa 3,zaa 4,zaa 5,zaa 8,sP 20 fN,Uaa 21,Uaa 22,sP 42 eZ,Uaa 43,Uaa 44,Xaa 45] [(6,uab),(8,yac),(10,Xab),(12,Xaf),(16,Uae),(18,Uak)])]⟩,(lx 4 1 [zaa 2,zaa 3,zaa 4,zaa 5,sP 20 fN,Uaa 21,Uaa 22] [(6,uab),(8,yac),(10,Xab),(12,Xaf)] 23)]⟩
def rx:Ctr:=⟨19,109,[.agg uab,.agg yac],[],[⟨Xaf,[.agg 2],[]⟩],ap8 lf⟩
theorem yo:Lk 4 rx:=ls yS (aC oV (aC nO aN))
def gP:Int×T0h->Option ((Int×T0h)⊕(Int×LI×T0c)):=λ(v0,v1,v2,v3,_)=>
bif(decide (v3<v2))then((d7 v3).bind λx0=>
(dI v1 x0).bind λx1=>
let x2:=w64 (v0+x1);
let x3:=w64 (v3+1);
some (.inl (x2,v1,v2,x3,())))else
some (.inr (v0,v1,v2,v3,false,()))
def lr(a0:List (Int)):Option (Int×Unit):=
let x0:=dM a0.length;
(dU gP NN (0,a0,x0,0,())).bind λ(x1,_)=>
some (x1,())
def zn:X.Cfg:=⟨E0,[],[],[(lx 4 0 [Uaa 3,sP 6 RI,Uaa 7,Uaa 8] [] 9)]⟩
def rI:Ctr:=⟨55,110,uL [RI],[],[⟨Xad,[.one],[]⟩],ap1 lr⟩
theorem yB:Lk 1 rI:=ls zn aN
def nD:Int×LI×T0n->Option ((Int×LI×T0n)⊕(T0d⊕T1d)):=λ(v0,v1,v2,v3,v4)=>
bif(decide (v3<v2))then((d7 v3).bind λx0=>
(dI v1 x0).bind λx1=>
(match(bif(decide (v0>=0))then(bif(decide (v0<x1))then(some (.inl (0,v3,v0,())))else
some (.inr (v0,v3,x1,v1,v2,v3,false,v4)))else
some (.inr (v0,v3,x1,v1,v2,v3,false,v4)):Option (T0d⊕(Int×Int×T1d)))with
|none=>none
|some (.inl (x2,x3,x4,_))=>
some (.inr (.inl (x2,x3,x4,())))
|some (.inr (x2,x3,x4,x5,x6,x7,x8,x9))=>
let ae:=w64 (x2-x4);
let af:=w64 (x7+1);
some (.inl (ae,x5,x6,af,x9))))else
some (.inr (.inr (v0,v1,v2,v3,false,v4)))
def pE(a0:List (Int))(a1:Int):Option (T0d):=
let x0:=dM a0.length;
(match dU nD NN (a1,a0,x0,0,0,0,())with
|none=>none
|some (.inl (x1,x2,x3,_))=>
some (x2,x3,x1,())
|some (.inr (x1,x2,x3,_))=>
some (0,0,6,()))
def Fi:X.Cfg:=⟨E0,[],[],[⟨8,0,qE,[(.ret,qS [zaa 4,Uaa 5] [(10,zac)]),(.normal,qS [Uaa 1,zaa 4,Uaa 6,Uaa 7,sP 8 RI,Uaa 9,Uaa 10,Xaa 21] [(10,zac)])]⟩,⟨3,1,qS [Uaa 1,zaa 4,sP 8 RI,Uaa 9,Uaa 10] [(10,zac)],[(.ret,qS [zaa 4,Uaa 5] [(10,zac)]),(.exit 0,qS [Uaa 1,zaa 4,sP 8 RI,Uaa 9,Uaa 10,Xaa 11] [(10,zac)])]⟩]⟩
def xC:Ctr:=⟨54,111,zab,[],[⟨uL [I64,I64,I64],[.agg 2,.one],[]⟩],ap2 pE⟩
theorem Fb:Lk 1 xC:=ls Fi aN
def kP(a0:List (Int))(a1:List (Int))(a2:Int):Option (Int×Int×T0p):=
(dK 6 a1 a2).bind λ(x0,x1,x2,_)=>
bif(x0==4)then((lr a0).bind λ(x3,_)=>
(dK x3 x1 x2).bind λ(x4,x5,x6,_)=>
(pE a0 x4).bind λ(x7,x8,x9,_)=>
some (1,0,x7,x8,x5,x6,()))else
bif(x0==5)then((dK 10 x1 x2).bind λ(x3,x4,x5,_)=>
let x6:=wk .u16 x3;
some (2,x6,0,0,x4,x5,()))else
(ie x1 x2).bind λ(x3,x4,x5,_)=>
some (0,x3,0,0,x4,x5,())
def Bk:X.Cfg:=⟨E0,[fv,rI,xC,mf],[],[]⟩
def tC:Ctr:=⟨20,112,[.ptr ⟨2,0,[]⟩ [0],shU RI],[(2,zab)],[⟨Zag,[.agg 4],[(2,zab)]⟩],ap3 kP⟩
theorem AJ:Lk 5 tC:=ls Bk (aC fG (aC yB (aC Fb (aC nQ aN))))
def fR:LDTs×LDTs×T02->Option ((LDTs×LDTs×T02)⊕((Bool×Unit)⊕(LDTs×LDTs×T0c))):=λ(v0,v1,v2,v3,_)=>
bif(decide (v3<v2))then((d7 v3).bind λx0=>
(dI v1 x0).bind λx1=>
(bif(decide (x1.1>=0))then(bif(decide (x1.1<=4))then(bif(decide (x1.2.1>=0))then(bif(decide (x1.2.1<=255))then(bif(decide (x1.2.2.1>=0))then(bif(decide (x1.2.2.1<=1099511627776))then(bif(decide (x1.2.2.2.1>=(-1)))then(bif(decide (x1.2.2.2.1<=255))then(bif(decide (x1.2.2.2.2.1>=(-1)))then(bif(decide (x1.2.2.2.2.1<=255))then(bif(decide (x1.2.2.2.2.2.1>=0))then(some (v0,(decide (x1.2.2.2.2.2.1<=6)),v1,v2,v3,x1.1,x1.2.1,x1.2.2.1,x1.2.2.2.1,x1.2.2.2.2.1,x1.2.2.2.2.2.1,x1.2.2.2.2.2.2.1,x1.2.2.2.2.2.2.2,()))else
some (v0,false,v1,v2,v3,x1.1,x1.2.1,x1.2.2.1,x1.2.2.2.1,x1.2.2.2.2.1,x1.2.2.2.2.2.1,x1.2.2.2.2.2.2.1,x1.2.2.2.2.2.2.2,()))else
some (v0,false,v1,v2,v3,x1.1,x1.2.1,x1.2.2.1,x1.2.2.2.1,x1.2.2.2.2.1,x1.2.2.2.2.2.1,x1.2.2.2.2.2.2.1,x1.2.2.2.2.2.2.2,()))else
some (v0,false,v1,v2,v3,x1.1,x1.2.1,x1.2.2.1,x1.2.2.2.1,x1.2.2.2.2.1,x1.2.2.2.2.2.1,x1.2.2.2.2.2.2.1,x1.2.2.2.2.2.2.2,()))else
some (v0,false,v1,v2,v3,x1.1,x1.2.1,x1.2.2.1,x1.2.2.2.1,x1.2.2.2.2.1,x1.2.2.2.2.2.1,x1.2.2.2.2.2.2.1,x1.2.2.2.2.2.2.2,()))else
some (v0,false,v1,v2,v3,x1.1,x1.2.1,x1.2.2.1,x1.2.2.2.1,x1.2.2.2.2.1,x1.2.2.2.2.2.1,x1.2.2.2.2.2.2.1,x1.2.2.2.2.2.2.2,()))else
some (v0,false,v1,v2,v3,x1.1,x1.2.1,x1.2.2.1,x1.2.2.2.1,x1.2.2.2.2.1,x1.2.2.2.2.2.1,x1.2.2.2.2.2.2.1,x1.2.2.2.2.2.2.2,()))else
some (v0,false,v1,v2,v3,x1.1,x1.2.1,x1.2.2.1,x1.2.2.2.1,x1.2.2.2.2.1,x1.2.2.2.2.2.1,x1.2.2.2.2.2.2.1,x1.2.2.2.2.2.2.2,()))else
some (v0,false,v1,v2,v3,x1.1,x1.2.1,x1.2.2.1,x1.2.2.2.1,x1.2.2.2.2.1,x1.2.2.2.2.2.1,x1.2.2.2.2.2.2.1,x1.2.2.2.2.2.2.2,()))else
some (v0,false,v1,v2,v3,x1.1,x1.2.1,x1.2.2.1,x1.2.2.2.1,x1.2.2.2.2.1,x1.2.2.2.2.2.1,x1.2.2.2.2.2.2.1,x1.2.2.2.2.2.2.2,()))else
some (v0,false,v1,v2,v3,x1.1,x1.2.1,x1.2.2.1,x1.2.2.2.1,x1.2.2.2.2.1,x1.2.2.2.2.2.1,x1.2.2.2.2.2.2.1,x1.2.2.2.2.2.2.2,()))else
some (v0,false,v1,v2,v3,x1.1,x1.2.1,x1.2.2.1,x1.2.2.2.1,x1.2.2.2.2.1,x1.2.2.2.2.2.1,x1.2.2.2.2.2.2.1,x1.2.2.2.2.2.2.2,()):Option (LDTs×Bool×LDTs×T1O)).bind λ(x2,x3,x4,x5,x6,x7,x8,x9,ac,ae,af,ah,ai,_)=>
(bif(!x3)then(some (x2,x4,x5,x6,true,()))else
let aj:=dM ai.length;
bif(aj != 8)then(some (x2,x4,x5,x6,true,()))else
(fa ai 8).bind λ(ak,_)=>
some (x2,x4,x5,x6,(!ak),()):Option (LDTs×LDTs×T0c)).bind λ(aj,ak,am,an,ap,_)=>
bif ap then(some (.inr (.inl (false,()))))else
let aq:=w64 (an+1);
some (.inl (aj,ak,am,aq,())))else
some (.inr (.inr (v0,v1,v2,v3,false,())))
def jA(a0:LDTs):Option (Bool×Unit):=
let x0:=dM a0.length;
(match dU fR NN (a0,a0,x0,0,())with
|none=>none
|some (.inl (x1,_))=>
some (x1,())
|some (.inr (x1,_))=>
let x6:=dM x1.length;
some ((x6==4),()))
def uY:X.Cfg:=⟨E0,[fW],[],[⟨8,0,qE,[(.normal,qS [sP 0 (yaa pX),zaa 4,Xaa 5,sP 6 (yaa pX),Uaa 7,Uaa 8] [(10,yaj)])]⟩,⟨9,1,qE,[(.normal,qS [sP 0 (yaa pX),sP 6 (yaa pX),Uaa 7,Uaa 8,Xaa 83] [])]⟩,⟨3,2,qS [sP 0 (yaa pX),sP 6 (yaa pX),Uaa 7,Uaa 8] [],[(.ret,qS [Xaa 2] []),(.exit 0,qS [sP 0 (yaa pX),sP 6 (yaa pX),Uaa 7,Uaa 8,Xaa 9] [])]⟩]⟩
def pe:Ctr:=⟨113,113,uL [(yaa pX)],[],[⟨uac,[.one],[]⟩],ap1 jA⟩
theorem uJ:Lk 3 pe:=ls uY (aC gI aN)
def iU:T1u->Option (T1u⊕((Bool×Unit)⊕(LLCn×Int×Int×Bool×T0H))):=λ(v0,v1,v2,v3,v4,v5)=>
bif(decide (v2<v1))then((d7 v2).bind λx0=>
(dI v0 x0).bind λx1=>
let x2:=dM x1.length;
(d7 v2).bind λx3=>
(dI v4 x3).bind λx4=>
bif(x2 != x4)then(some (.inr (.inl (false,()))))else
(fa x1 32).bind λ(x5,_)=>
bif(!x5)then(some (.inr (.inl (false,()))))else
let x6:=w64 (v2+1);
some (.inl (v0,v1,x6,v3,v4,v5)))else
some (.inr (.inr (v0,v1,v2,false,v3,v4,v5)))
def jB(a0:LDIn)(a1:List (Int))(a2:List LI)(a3:List LDCn)(a4:LDTs):Option (Bool×Unit):=
((iw a0 a1 a2).bind λ(x0,_)=>
bif(x0 != 0)then(some (true,a0,a1,a2,a3,a4,()))else
let x1:=dM a3.length;
let x2:=dM a1.length;
bif(x1 != x2)then(some (true,a0,a1,a2,a3,a4,()))else
(jA a4).bind λ(x3,_)=>
some ((!x3),a0,a1,a2,a3,a4,()):Option (Bool×T0H)).bind λ(x0,x1,x2,x3,x4,x5,_)=>
bif x0 then(some (false,()))else
let x6:=dM x4.length;
(match dU iU NN (x4,x6,0,x1,x2,x3,x4,x5,())with
|none=>none
|some (.inl (x7,_))=>
some (x7,())
|some (.inr (x7,_))=>
some (true,()))
def yR:X.Cfg:=⟨E0,[lH,pe,fW],[],[⟨2,0,qE,[(.normal,qS [zaa 2,zaa 3,Xaa 24] [(6,uab),(8,Uad)])]⟩,⟨6,1,qS [zaa 2,sP 26 (yaa d9),Uaa 27,Uaa 28] [(6,uab),(8,Uad)],[(.ret,qS [Xaa 4] []),(.exit 0,qS [zaa 2,sP 26 (yaa d9),Uaa 27,Uaa 28,Xaa 29] [(6,uab),(8,Uad)])]⟩]⟩
def rv:Ctr:=⟨57,114,[.agg uab,.agg Uad],[],[⟨uac,[.one],[]⟩],ap5 jB⟩
theorem yn:Lk 4 rv:=ls yR (aC nN (aC uJ (aC gI aN)))
def gK:LDTs×Int×Int×LLCn×LDTs×LLCn×Unit->Option ((LDTs×Int×Int×LLCn×LDTs×LLCn×Unit)⊕(LDTs×Int×Int×Bool×LLCn×LDTs×LLCn×Unit)):=λ(v0,v1,v2,v3,v4,v5,_)=>
bif(decide (v2<v1))then((d7 v2).bind λx0=>
(dI v0 x0).bind λx1=>
let x2:List LDCn:=[x1.2.2.2.2.2.2.2];
bif(dY 24 v5.length x2.length)then let x3:List LDCn:=(List.append v5 x2);
let x4:=w64 (v2+1);
some (.inl (v0,v1,x4,v3,v4,x3,()))else none)else
some (.inr (v0,v1,v2,false,v3,v4,v5,()))
def ld(a0:List LDCn)(a1:LDTs):Option (LLCn×Unit):=
bif(dY 24 0 a0.length)then let x0:List LDCn:=(List.append [] a0);
let x1:=dM a1.length;
(dU gK NN (a1,x1,0,a0,a1,x0,())).bind λ(x2,x3,x4,x5,x6,x7,x8,_)=>
some (x8,())else none
def yQ:X.Cfg:=⟨E0,[],[(8,(uaa KCn)),(19,(uaa KCn)),(20,(uaa KCn))],[(lx 4 0 [Zaa 3 9,sP 10 (yaa pX),Uaa 11,Uaa 12] [(4,Uad),(9,zah)] 13)]⟩
def ru:Ctr:=⟨59,115,[.agg Uad],[],[⟨zah,[.one],[]⟩],ap2 ld⟩
theorem ym:Lk 1 ru:=ls yQ aN
def gi:T2u->Option (T2u⊕(T0P⊕(Int×Int×LDCn×T2o))):=λ(v0,v1,v2,v3,v4,v5,v6,v7)=>
bif(decide (v4<v3))then((d7 v4).bind λx0=>
(dI v2 x0).bind λx1=>
(fY v6 x1.1 x1.2.1 x1.2.2.1 x1.2.2.2).bind λ(x2,_)=>
bif(!x2)then(some (.inr (.inl (false,(),0,(),(),(),()))))else
let x3:=w64 (v4+1);
some (.inl (v0,v1,v2,v3,x3,v5,v6,v7)))else
some (.inr (.inr (v0,v1,v2,v3,v4,false,v5,v6,v7)))
def gh:T2k->Option (T2k⊕(T0P⊕T2o)):=λ(v0,v1,v2,v3,v4,v5,v6,v7,v8,v9,v10,v11,v12,v13,v14,_)=>
bif(decide (v1<v0))then((d7 v1).bind λx0=>
(dI v14 x0).bind λx1=>
(dI v14 x0).bind λx2=>
let x3:=dM x2.length;
(match dU gi NN (v0,v1,x2,x3,0,v2,v3,v4,v5,v6,v7,v8,v9,v10,v11,v12,v13,v14,())with
|none=>none
|some (.inl (x4,x5,x6,x7,x8,x9,_))=>
some (.inr (.inl (x4,x5,x6,x7,x8,x9,())))
|some (.inr (x4,x5,x6,x7,x8,x9,ac))=>
let ay:=w64 (x5+1);
some (.inl (x4,ay,ac))))else
some (.inr (.inr (v0,v1,false,v2,v3,v4,v5,v6,v7,v8,v9,v10,v11,v12,v13,v14,())))
def gg:T2J->Option (T2J⊕(Int×LLCn×Int×Int×LDCn×T2E)):=λ(v0,v1,v2,v3,v4,v5,v6,v7,v8,v9,v10,v11,v12,v13,v14,v15,v16,v17,v18,v19,v20,v21,v22)=>
bif(decide (v6<v5))then((d7 v6).bind λx0=>
(dI v4 x0).bind λx1=>
(d7 v0).bind λx2=>
(dI v10 x2).bind λx3=>
let x4:=w64 (x3+v6);
(fX v10 v11 v8 x1.1 x1.2.1 x1.2.2.1 x1.2.2.2).bind λ(x5,x6,x7,_)=>
(d7 x4).bind λx8=>
(dI v21 x8).bind λx9=>
(dI v21 x8).bind λac=>
let ae:=List.modify v21 x8 λe=>(x5,x6);
let af:=w64 (v6+1);
some (.inl (v0,v1,v2,v3,v4,v5,af,v7,v8,v9,v10,v11,v12,v13,v14,v15,v16,v17,v18,v19,v20,ae,v22)))else
some (.inr (v0,v1,v2,v3,v4,v5,v6,false,v7,v8,v9,v10,v11,v12,v13,v14,v15,v16,v17,v18,v19,v20,v21,v22))
def gf:T2G->Option (T2G⊕(LLCn×T2E)):=λ(v0,v1,v2,v3)=>
bif(decide (v2<v1))then((d7 v2).bind λx0=>
(dI v0 x0).bind λx1=>
let x2:=dM x1.length;
(dU gg NN (v2,v0,v1,v2,x1,x2,0,v3)).bind λ(x3,x4,x5,x6,x7,x8,x9,ac,ae)=>
let aE:=w64 (x6+1);
some (.inl (x4,x5,aE,ae)))else
some (.inr (v0,v1,v2,false,v3))
def ge:T3g->Option (T3g⊕(LDTs×Int×Int×LDCn×Int×Int×Bool×T2V)):=λ(v0,v1,v2,v3,v4,v5,v6,v7,v8,v9,v10,v11,v12,v13,v14,v15,v16,v17,v18,v19,v20,v21,v22,v23,v24,v25,v26,v27,v28,v29,v30,v31,v32,v33)=>
bif(decide (v5<v4))then((d7 v5).bind λx0=>
(dI v3 x0).bind λx1=>
(fX v9 v10 v7 x1.1 x1.2.1 x1.2.2.1 x1.2.2.2).bind λ(x2,x3,x4,_)=>
let x5:LDCe:=[(x2,x3)];
bif(dY 4 v32.length x5.length)then let x6:LDCe:=(List.append v32 x5);
let x7:=w64 (v5+1);
some (.inl (v0,v1,v2,v3,v4,x7,v6,v7,v8,v9,v10,v11,v12,v13,v14,v15,v16,v17,v18,v19,v20,v21,v22,v23,v24,v25,v26,v27,v28,v29,v30,v31,x6,v33))else none)else
some (.inr (v0,v1,v2,v3,v4,v5,false,v6,v7,v8,v9,v10,v11,v12,v13,v14,v15,v16,v17,v18,v19,v20,v21,v22,v23,v24,v25,v26,v27,v28,v29,v30,v31,v32,v33))
def gd:T2F->Option (T2F⊕(LDTs×Int×Int×Bool×T2s)):=λ(v0,v1,v2,v3,v4,v5,v6,v7,v8,v9,v10,v11,v12,v13,v14,v15,v16,v17,v18,v19,_)=>
bif(decide (v2<v1))then((d7 v2).bind λx0=>
(dI v0 x0).bind λx1=>
let x2:=dM x1.2.2.2.2.2.2.2.length;
(dU ge NN (v0,v1,v2,x1.2.2.2.2.2.2.2,x2,0,v3,v4,v5,v6,v7,v8,v9,v10,v11,v12,v13,v14,v15,v16,v17,v18,v19,x1.1,x1.2.1,x1.2.2.1,x1.2.2.2.1,x1.2.2.2.2.1,x1.2.2.2.2.2.1,x1.2.2.2.2.2.2.1,x1.2.2.2.2.2.2.2,x1.1,[],x1.2.1,x1.2.2.1,x1.2.2.2.1,x1.2.2.2.2.1,x1.2.2.2.2.2.1,x1.2.2.2.2.2.2.1,())).bind λ(x3,x4,x5,x6,x7,x8,x9,ac,ae,af,ah,ai,aj,ak,am,an,ap,aq,av,ax,ay,az,aA,aB,aD,aE,aF,aG,aH,aI,aJ,aK,aL,aM,aO,aP,aQ,aR,aS,aT,_)=>
let aU:LDTh:=[(aL,(aM,(aO,(aP,(aQ,(aR,(aS,aT)))))))];
bif(dY 80 aB.length aU.length)then let aV:LDTh:=(List.append aB aU);
let aW:=w64 (x5+1);
some (.inl (x3,x4,aW,ac,ae,af,ah,ai,aj,ak,am,an,ap,aq,av,ax,ay,az,aA,aV,()))else none)else
some (.inr (v0,v1,v2,false,v3,v4,v5,v6,v7,v8,v9,v10,v11,v12,v13,v14,v15,v16,v17,v18,v19,()))
def iJ(a0:LDIn)(a1:List (Int))(a2:List LI)(a3:List (Int))(a4:Int)(a5:List LDCn)(a6:LDTs):Option (T10):=
(jB a0 a1 a2 a5 a6).bind λ(x0,_)=>
bif(!x0)then(some ([],0,[],[],[],false,()))else
(gz a3 a4 a1).bind λ(x1,_)=>
bif(!x1)then(some ([],0,[],[],[],false,()))else
(ld a5 a6).bind λ(x2,_)=>
let x3:=dM x2.length;
(match dU gh NN (x3,0,a0,a1,a2,a3,a4,a5,a6,(),0,(),(),(),x2,())with
|none=>none
|some (.inl (x4,x5,x6,x7,x8,x9,_))=>
some ([],x6,[],[],[],x4,())
|some (.inr (x4,x5,x6,x7,x8,x9,ac,ae,af,ah,ai,aj,ak,am,an,ap,_))=>
bif(dY 8 0 ac.length)then let aq:List (Int):=(List.append [] ac);
bif(sf 512 512 2)then let av:LDCe:=(List.replicate 512 (0,0));
(lq).bind λ(ax,_)=>
let ay:=dM af.length;
(dU gf NN (af,ay,0,x7,x8,x9,ac,ae,af,ah,ai,aj,ak,am,an,aq,ae,av,ax,(),())).bind λ(az,aA,aB,aD,aE,aF,aG,aH,aI,aJ,aK,aL,aM,aO,aP,aQ,aR,aS,aT,aU,aV,_)=>
let aW:=dM aK.length;
(dU gd NN (aK,aW,0,aE,aF,aG,aH,aI,aJ,aK,aL,aM,aO,aP,aQ,aR,aS,aT,aU,[],())).bind λ(aY,aZ,ba,bc,bd,be,bf,bg,bh,bi,bj,bk,bl,bm,bn,bo,bp,bq,bt,bv,bx,_)=>
some (bp,bq,bt,bv,bx,true,())else none else none)
def wy:X.Cfg:=⟨E0,[rv,jW,ru,iN,nY,nZ],[(150,LD),(151,LD)],[⟨12,0,qS [zaa 3,zaa 4,zaa 5,zaa 6,Zaa 37 77,Uaa 38,Uaa 39,sP 43 d9,Uaa 44,Uaa 45] [(8,uab),(10,yab),(12,Uad),(14,Zab),(77,zah)],[(.ret,qS [zaa 6,Xaa 7] [(14,Zab)]),(.exit 2,qS [zaa 3,zaa 4,zaa 5,zaa 6,Zaa 37 77,Uaa 38,Uaa 39,sP 43 d9,Uaa 44,Uaa 45,Xaa 46] [(8,uab),(10,yab),(12,Uad),(14,Zab),(77,zah)])]⟩,⟨6,1,qS [zaa 3,zaa 4,zaa 5,zaa 6,Zaa 37 77,Uaa 38,Uaa 39] [(8,uab),(10,yab),(12,Uad),(14,Zab),(77,zah)],[(.ret,qS [zaa 6,Xaa 7] [(14,Zab)]),(.exit 0,qS [zaa 3,zaa 4,zaa 5,zaa 6,Zaa 37 77,Uaa 38,Uaa 39,Xaa 40] [(8,uab),(10,yab),(12,Uad),(14,Zab),(77,zah)])]⟩,⟨28,2,qS [zaa 3,zaa 4,zaa 5,zaa 6,zaa 12,Uaa 13,sP 68 (yaa d9),Uaa 69,Uaa 70,sP 75 d9,Uaa 76,Uaa 77] [(8,uab),(10,yab),(12,Uad),(14,Zab),(26,zai)],[(.exit 6,qS [zaa 3,zaa 4,zaa 5,zaa 6,zaa 12,Uaa 13,sP 68 (yaa d9),Uaa 69,Uaa 70,sP 75 d9,Uaa 76,Uaa 77,Xaa 78] [(8,uab),(10,yab),(12,Uad),(14,Zab),(26,zai)])]⟩,⟨22,3,qS [zaa 3,zaa 4,zaa 5,zaa 6,zaa 12,sP 68 (yaa d9),Uaa 69,Uaa 70] [(8,uab),(10,yab),(12,Uad),(14,Zab),(26,zai)],[(.exit 4,qS [zaa 3,zaa 4,zaa 5,zaa 6,zaa 12,sP 68 (yaa d9),Uaa 69,Uaa 70,Xaa 71] [(8,uab),(10,yab),(12,Uad),(14,Zab),(26,zai)])]⟩,⟨43,4,qS [zaa 3,zaa 4,zaa 6,zaa 12,zaa 19,sP 104 (yaa pX),Uaa 105,Uaa 106,sP 126 d9,Uaa 127,Uaa 128] [(8,uab),(10,yab),(12,Uad),(14,Zab),(26,Uac),(38,yaj),(40,uah)],[(.exit 10,qS [zaa 3,zaa 4,zaa 6,zaa 12,zaa 19,sP 104 (yaa pX),Uaa 105,Uaa 106,sP 126 d9,Uaa 127,Uaa 128,Xaa 129] [(8,uab),(10,yab),(12,Uad),(14,Zab),(26,Uac),(38,yaj),(40,uah)])]⟩,⟨35,5,qS [zaa 3,zaa 4,zaa 6,zaa 12,sP 104 (yaa pX),Uaa 105,Uaa 106] [(8,uab),(10,yab),(12,Uad),(14,Zab),(26,Uac)],[(.exit 8,qS [zaa 3,zaa 4,zaa 6,zaa 12,sP 104 (yaa pX),Uaa 105,Uaa 106,Xaa 107] [(8,uab),(10,yab),(12,Uad),(14,Zab),(26,Uac)])]⟩]⟩
def qg:Ctr:=⟨21,116,[.agg uab,.agg yab,.agg Uad],[],[⟨Xaj,[.agg 5,.one],[]⟩],ap7 iJ⟩
theorem wg:Lk 5 qg:=ls wy (aC yn (aC lC (aC ym (aC kF (aC q7 (aC qu aN))))))
def kf:T33->Option (T33⊕T3a):=λ(v0,v1,v2,v3,v4,v5,v6,v7,v8,v9,v10,v11,v12,v13,v14,v15,v16,v17,v18,v19,v20,v21,v22,v23,v24,v25,v26,v27,v28,v29,v30,v31,v32,v33,v34,v35,v36,_)=>
bif(decide (v1<v0))then(((dK 3 v2 v3).bind λ(x0,x1,x2,_)=>
bif(x0==0)then((dI v35 0).bind λx3=>
(dI v35 0).bind λx4=>
(kP v13 x1 x2).bind λ(x5,x6,x7,x8,x9,ac,_)=>
(d7 v1).bind λae=>
(dI v35 0).bind λaf=>
(dI af ae).bind λah=>
(dI v35 0).bind λai=>
(dI ai ae).bind λaj=>
let ak:=(List.modify v35 0 λe=>(List.modify e ae λe=>(x5,(x6,(x7,x8)))));
some (v0,v1,x9,ac,v4,v5,v6,v7,v8,v9,v10,v11,v12,v13,v14,v15,v16,v17,v18,v19,v20,v21,v22,v23,v24,v25,v26,v27,v28,v29,v30,v31,v32,v33,v34,ak,v36,()))else
some (v0,v1,x1,x2,v4,v5,v6,v7,v8,v9,v10,v11,v12,v13,v14,v15,v16,v17,v18,v19,v20,v21,v22,v23,v24,v25,v26,v27,v28,v29,v30,v31,v32,v33,v34,v35,v36,()):Option (T33)).bind λ(x0,x1,x2,x3,x4,x5,x6,x7,x8,x9,ac,ae,af,ah,ai,aj,ak,am)=>
let aO:=w64 (x1+1);
some (.inl (x0,aO,x2,x3,x4,x5,x6,x7,x8,x9,ac,ae,af,ah,ai,aj,ak,am)))else
some (.inr (v0,v1,false,v2,v3,v4,v5,v6,v7,v8,v9,v10,v11,v12,v13,v14,v15,v16,v17,v18,v19,v20,v21,v22,v23,v24,v25,v26,v27,v28,v29,v30,v31,v32,v33,v34,v35,v36,()))
def mY:T3i->Option (T3i⊕(Int×Int×Int×T3a)):=λ(v0,v1,v2,v3,v4,v5,v6,v7,v8,v9,v10,v11,v12,v13,v14,v15,v16,v17,v18,v19,v20,v21,v22,v23,v24,v25,v26,v27,v28,v29,v30,v31,v32,v33,v34,v35,v36,v37,v38,v39,_)=>
bif(decide (v4<v3))then(((dK 3 v5 v6).bind λ(x0,x1,x2,_)=>
bif(x0==0)then((d7 v0).bind λx3=>
(dI v39 x3).bind λx4=>
(dI v39 x3).bind λx5=>
(kP v16 x1 x2).bind λ(x6,x7,x8,x9,ac,ae,_)=>
(d7 v4).bind λaf=>
(dI v39 x3).bind λah=>
(dI ah.2.2.2.2.2.2.2 af).bind λai=>
(dI v39 x3).bind λaj=>
(dI aj.2.2.2.2.2.2.2 af).bind λak=>
let am:=(List.modify v39 x3 λe=>(e.1,(e.2.1,(e.2.2.1,(e.2.2.2.1,(e.2.2.2.2.1,(e.2.2.2.2.2.1,(e.2.2.2.2.2.2.1,(List.modify e.2.2.2.2.2.2.2 af λe=>(x6,(x7,(x8,x9))))))))))));
some (v0,v1,v2,v3,v4,ac,ae,v7,v8,v9,v10,v11,v12,v13,v14,v15,v16,v17,v18,v19,v20,v21,v22,v23,v24,v25,v26,v27,v28,v29,v30,v31,v32,v33,v34,v35,v36,v37,v38,am,()))else
some (v0,v1,v2,v3,v4,x1,x2,v7,v8,v9,v10,v11,v12,v13,v14,v15,v16,v17,v18,v19,v20,v21,v22,v23,v24,v25,v26,v27,v28,v29,v30,v31,v32,v33,v34,v35,v36,v37,v38,v39,()):Option (T3i)).bind λ(x0,x1,x2,x3,x4,x5,x6,x7,x8,x9,ac,ae,af,ah,ai,aj,ak,am,an)=>
let aR:=w64 (x4+1);
some (.inl (x0,x1,x2,x3,aR,x5,x6,x7,x8,x9,ac,ae,af,ah,ai,aj,ak,am,an)))else
some (.inr (v0,v1,v2,v3,v4,false,v5,v6,v7,v8,v9,v10,v11,v12,v13,v14,v15,v16,v17,v18,v19,v20,v21,v22,v23,v24,v25,v26,v27,v28,v29,v30,v31,v32,v33,v34,v35,v36,v37,v38,v39,()))
def ke:T33->Option (T33⊕T3a):=λ(v0,v1,v2,v3,v4,v5,v6,v7,v8,v9,v10,v11,v12,v13,v14,v15,v16,v17,v18,v19,v20,v21,v22,v23,v24,v25,v26,v27,v28,v29,v30,v31,v32,v33,v34,v35,v36,_)=>
bif(decide (v1<v0))then(((d7 v1).bind λx0=>
(dI v36 x0).bind λx1=>
(dI v36 x0).bind λx2=>
(dI v36 x0).bind λx3=>
let x4:=dM x3.2.2.2.2.2.2.2.length;
(dU mY NN (v1,v0,v1,x4,0,v2,v3,v4,v5,v6,v7,v8,v9,v10,v11,v12,v13,v14,v15,v16,v17,v18,v19,v20,v21,v22,v23,v24,v25,v26,v27,v28,v29,v30,v31,v32,v33,v34,v35,v36,())).bind λ(x5,x6,x7,x8,x9,ac,ae,af,ah,ai,aj,ak,am,an,ap,aq,av,ax,ay,az,aA,aB,aD,aE,aF,aG,aH,aI,aJ,aK,aL,aM,aO,aP,aQ,aR,aS,aT,aU,aV,aW,_)=>
(dK 4 ae af).bind λ(aY,aZ,ba,_)=>
bif(aY==0)then((dK 5 aZ ba).bind λ(bc,bd,be,_)=>
(d7 x5).bind λbf=>
(dI aW bf).bind λbg=>
(dI aW bf).bind λbh=>
let bi:=List.modify aW bf λe=>(bc,e.2);
some (x6,x7,bd,be,ah,ai,aj,ak,am,an,ap,aq,av,ax,ay,az,aA,aB,aD,aE,aF,aG,aH,aI,aJ,aK,aL,aM,aO,aP,aQ,aR,aS,aT,aU,aV,bi,()))else
some (x6,x7,aZ,ba,ah,ai,aj,ak,am,an,ap,aq,av,ax,ay,az,aA,aB,aD,aE,aF,aG,aH,aI,aJ,aK,aL,aM,aO,aP,aQ,aR,aS,aT,aU,aV,aW,()):Option (T33)).bind λ(x0,x1,x2,x3,x4,x5,x6,x7,x8,x9,ac,ae,af,ah,ai,aj,ak,am,an,ap,aq,av,ax,ay,az,aA,aB,aD,aE,aF,aG,aH,aI,aJ,aK,aL,aM,_)=>
let aO:=w64 (x1+1);
some (.inl (x0,aO,x2,x3,x4,x5,x6,x7,x8,x9,ac,ae,af,ah,ai,aj,ak,am,an,ap,aq,av,ax,ay,az,aA,aB,aD,aE,aF,aG,aH,aI,aJ,aK,aL,aM,())))else
some (.inr (v0,v1,false,v2,v3,v4,v5,v6,v7,v8,v9,v10,v11,v12,v13,v14,v15,v16,v17,v18,v19,v20,v21,v22,v23,v24,v25,v26,v27,v28,v29,v30,v31,v32,v33,v34,v35,v36,()))
def kC(a0:List (Int))(a1:Int):Option (LDIn×LI×LLI×LI×Int×LDCe×LDLn×LDTh×T06):=
(pF a0 a1).bind λ(x0,x1,x2,x3,x4,x5,x6,x7,x8,x9,ac,ae,af,ah,ai,aj,ak,am,an,ap,_)=>
(match((dK 3 an ap).bind λ(aq,av,ax,_)=>
bif(aq==0)then((lf x0 x1 x2 x3 x4 x5 x6 x7).bind λ(ay,az,_)=>
(dI ay 0).bind λaA=>
(dI ay 0).bind λaB=>
(dI ay 0).bind λaD=>
let aE:=dM aD.length;
(dU kf NN (aE,0,av,ax,(),(),(),(),0,(),(),(),x0,x1,x2,x3,x4,x5,x6,x7,x8,x9,ac,ae,af,ah,ai,aj,ak,am,x3,x4,x5,x6,x7,ay,az,())).bind λ(aF,aG,aH,aI,aJ,aK,aL,aM,aO,aP,aQ,aR,aS,aT,aU,aV,aW,aY,aZ,ba,bc,bd,be,bf,bg,bh,bi,bj,bk,bl,bm,bn,bo,bp,bq,bt,bv,bx,_)=>
let bA:=dM bx.length;
(dU ke NN (bA,0,aI,aJ,aK,aL,aM,aO,aP,aQ,aR,aS,aT,aU,aV,aW,aY,aZ,ba,bc,bd,be,bf,bg,bh,bi,bj,bk,bl,bm,bn,bo,bp,bq,bt,bv,bx,())).bind λ(bB,bC,bD,bE,bF,bG,bH,bI,bJ,bK,bL,bM,bN,bO,bP,bQ,bR,bS,bT,bU,bV,bW,bY,bZ,b8,b9,ca,cb,cd,cf,cg,ch,ci,cj,cl,cn,cq,cr,_)=>
(iJ bO bP bQ ch ci cq cr).bind λ(cu,cw,cx,cy,cz,cD,_)=>
bif cD then(some (.inl (bE,bF,bG,bH,bI,bJ,bK,bL,bM,bN,bO,bP,bQ,bR,bS,bT,bU,bV,bW,bY,bZ,b8,b9,ca,cb,cd,cf,cg,cu,cw,cx,cy,cz,())))else
some (.inr (bE,bF,bG,bH,bI,bJ,bK,bL,bM,bN,bO,bP,bQ,bR,bS,bT,bU,bV,bW,bY,bZ,b8,b9,ca,cb,cd,cf,cg,ch,ci,cj,cl,cn,())))else
some (.inr (av,ax,(),(),(),(),0,(),(),(),x0,x1,x2,x3,x4,x5,x6,x7,x8,x9,ac,ae,af,ah,ai,aj,ak,am,x3,x4,x5,x6,x7,())):Option (T2W⊕T2W))with
|none=>none
|some (.inl (aq,av,ax,ay,az,aA,aB,aD,aE,aF,aG,aH,aI,aJ,aK,aL,aM,aO,aP,aQ,aR,aS,aT,aU,aV,aW,aY,aZ,ba,bc,bd,be,bf,_))=>
some (aG,aH,aI,ba,bc,bd,be,bf,aq,av,())
|some (.inr (aq,av,ax,ay,az,aA,aB,aD,aE,aF,aG,aH,aI,aJ,aK,aL,aM,aO,aP,aQ,aR,aS,aT,aU,aV,aW,aY,aZ,ba,bc,bd,be,bf,_))=>
some (aG,aH,aI,ba,bc,bd,be,bf,aq,av,()))
def wJ:X.Cfg:=⟨E0,[xD,fv,rx,tC,qg],[],[⟨11,0,qE,[(.normal,qS [zaa 0,zaa 2,zaa 3,zaa 4,zaa 5,zaa 6,Uaa 27,Uaa 28] [(2,zab),(6,Zad),(8,Zab),(10,Zae),(12,yac),(14,Xaf)])]⟩,(lx 8 1 [zaa 0,zaa 2,zaa 3,zaa 4,zaa 5,zaa 6,Uaa 27,Uaa 28] [(2,zab),(6,Zad),(8,Zab),(10,Zae),(12,yac),(14,Xaf)] 29),⟨26,2,qE,[(.normal,qS [zaa 0,zaa 2,zaa 3,zaa 4,zaa 5,zaa 6,Uaa 8,Uaa 48,Uaa 49,Uaa 58,Uaa 59] [(2,zab),(6,Zad),(8,Zab),(10,Zae),(12,yac),(14,Xaf)])]⟩,⟨23,3,qS [zaa 0,zaa 2,zaa 3,zaa 4,zaa 5,zaa 6,Uaa 8,Uaa 48,Uaa 49,Uaa 58,Uaa 59] [(2,zab),(6,Zad),(8,Zab),(10,Zae),(12,yac),(14,Xaf)],[(.exit 4,qS [zaa 0,zaa 2,zaa 3,zaa 4,zaa 5,zaa 6,Uaa 8,Uaa 48,Uaa 49,Uaa 58,Uaa 59,Xaa 60] [(2,zab),(6,Zad),(8,Zab),(10,Zae),(12,yac),(14,Xaf)])]⟩,⟨19,4,qE,[(.normal,qS [zaa 0,zaa 2,zaa 3,zaa 4,zaa 5,zaa 6,Uaa 48,Uaa 49] [(2,zab),(6,Zad),(8,Zab),(10,Zae),(12,yac),(14,Xaf)])]⟩,⟨16,5,qS [zaa 0,zaa 2,zaa 3,zaa 4,zaa 5,zaa 6,Uaa 48,Uaa 49] [(2,zab),(6,Zad),(8,Zab),(10,Zae),(12,yac),(14,Xaf)],[(.exit 2,qS [zaa 0,zaa 2,zaa 3,zaa 4,zaa 5,zaa 6,Uaa 48,Uaa 49,Xaa 50] [(2,zab),(6,Zad),(8,Zab),(10,Zae),(12,yac),(14,Xaf)])]⟩,⟨3,6,qE,[(.normal,qS [zaa 0,zaa 2,zaa 3,zaa 4,zaa 5] [(2,zab),(6,Zad),(8,Zab),(10,Zae),(12,Uac)]),(.normal,qS [zaa 0,zaa 2,zaa 3,zaa 4,zaa 5] [(2,zab),(6,Zad),(8,Zab),(10,Zae),(12,yac)])]⟩]⟩
def qn:Ctr:=⟨6,117,[.ptr ⟨2,0,[]⟩ [0]],[(2,zab)],[⟨uL [fc,RI,(yaa RW),RI,CW,eZ,fr,fN],[.agg 3,.agg 5],[(2,zab)]⟩],ap2 kC⟩
theorem wq:Lk 10 qn:=ls wJ (aC Fc (aC fG (aC yo (aC AJ (aC wg aN)))))
def lS(a0:List (Int))(a1:Int)(a2:Int):Option (Bool×Unit):=
bif(decide (a1>=0))then(let x0:Int:=(dM a0.length);
bif(decide (a1<x0))then(bif(decide (a2>=0))then((d7 a1).bind λx1=>
(dI a0 x1).bind λx2=>
some ((decide (a2<x2)),()))else
some (false,()))else
some (false,()))else
some (false,())
def uT:X.Cfg:=⟨E0,[],[],[]⟩
def o5:Ctr:=⟨62,118,[shU RI,.agg zac],[],[⟨uac,[.one],[]⟩],ap3 lS⟩
theorem uD:Lk 1 o5:=ls uT aN
def i8(a0:List (Int))(a1:Int)(a2:List (Int))(a3:Int)(a4:Int):Option (T02):=
(lS a2 a3 a4).bind λ(x0,_)=>
bif(!x0)then(some (0,6,()))else
let x1:=dM a0.length;
bif(decide (a3>=x1))then(some (0,6,()))else
(d7 a3).bind λx2=>
(dI a0 x2).bind λx3=>
let x4:=w64 (x3+a4);
some (x4,0,())
def tO:X.Cfg:=⟨E0,[o5],[],[]⟩
def ol:Ctr:=⟨22,119,[.agg yab,shU RI,.agg zac],[],[⟨zac,[.one,.one],[]⟩],ap5 i8⟩
theorem tM:Lk 2 ol:=ls tO (aC uD aN)
def nE(a0:LDCe)(a1:LDLn)(a2:Int):Option (T0c):=
(bif(decide (a2<0))then(some (a2,true,a0,a1,0,0,()))else
bif(decide (a2>=512))then(some (a2,true,a0,a1,0,0,()))else
let x0:=dM a0.length;
some (a2,(decide (a2>=x0)),a0,a1,0,0,()):Option (Int×Bool×LDCe×LDLn×T02)).bind λ(x0,x1,x2,x3,x4)=>
bif x1 then(some (0,0,false,()))else
let x6:=w64 (Int.tdiv x0 4);
let x7:=Int.tmod x6 4;
(let x8:=dM x3.length;
bif(decide (x7<x8))then((d7 x7).bind λx9=>
(dI x3 x9).bind λac=>
bif(ac.1==x6)then(let ae:Int:=(Int.tmod x0 4);
(d7 x7).bind λaf=>
(dI x3 af).bind λah=>
let ai:=dM ah.2.2.length;
some (x0,x7,(decide (ae<ai)),x2,x3,x4))else
some (x0,x7,false,x2,x3,x4))else
some (x0,x7,false,x2,x3,x4):Option (Int×Int×Bool×LDCe×LDLn×T02)).bind λ(x8,x9,ac,ae,af,ah,ai,_)=>
bif ac then((d7 x9).bind λaj=>
(dI af aj).bind λak=>
let am:=Int.tmod x8 4;
(d7 am).bind λan=>
(dI ak.2.2 an).bind λap=>
some (ap.1,ap.2,true,()))else
(d7 x8).bind λaj=>
(dI ae aj).bind λak=>
some (ak.1,ak.2,true,())
def CF:X.Cfg:=⟨E0,[],[],[⟨2,0,qE,[(.normal,qS [Uaa 1,zaa 2,zaa 4,Xaa 20] [(6,zad),(10,Uab)])]⟩,⟨7,1,qE,[(.normal,qS [Uaa 1,zaa 2,zaa 4,Uaa 7,Xaa 52] [(6,zad),(10,Uab)])]⟩]⟩
def vF:Ctr:=⟨23,120,[.agg zad,shU I64],[],[⟨uL [CB,CW,.bool],[.agg 2,.one],[]⟩],ap3 nE⟩
theorem Cn:Lk 1 vF:=ls CF aN
def eM:T1G->Option (T1G⊕(T0b⊕T1T)):=λ(v0,v1,v2,v3,v4,v5)=>
bif(decide (v4<v3))then((d7 v4).bind λx0=>
(dI v2 x0).bind λx1=>
(let x2:=dM v0.length;
bif(decide (v4<x2))then(bif(decide (v1>=x1))then(let x3:Int:=(w64 (v1-x1));
(d7 v4).bind λx4=>
(dI v0 x4).bind λx5=>
some (v0,v1,v4,x1,v2,v3,v4,(decide (x3<x5)),v5))else
some (v0,v1,v4,x1,v2,v3,v4,false,v5))else
some (v0,v1,v4,x1,v2,v3,v4,false,v5):Option (T2b)).bind λ(x2,x3,x4,x5,x6,x7,x8,x9,ac)=>
bif x9 then(let ai:Int:=(w64 (x3-x5));
some (.inr (.inl (true,x4,ai,()))))else
let ai:=w64 (x8+1);
some (.inl (x2,x3,x6,x7,ai,ac)))else
some (.inr (.inr (v0,v1,v2,v3,v4,false,v5)))
def i7(a0:List (Int))(a1:Int)(a2:List (Int))(a3:Int):Option (T0c):=
let x0:=dM a0.length;
(match dU eM NN (a2,a3,a0,x0,0,a0,a1,0,0,())with
|none=>none
|some (.inl (x1,x2,x3,_))=>
some (x2,x3,x1,())
|some (.inr (x1,x2,x3,_))=>
some (0,0,false,()))
def tN:X.Cfg:=⟨E0,[],[],[⟨8,0,qE,[(.normal,qS [sP 1 RI,Uaa 2,zaa 6,Uaa 8,Uaa 9,sP 11 RI,Uaa 12,Uaa 13,Xaa 36] [(8,yab),(14,zac)])]⟩,⟨3,1,qS [sP 1 RI,Uaa 2,zaa 6,sP 11 RI,Uaa 12,Uaa 13] [(8,yab),(14,zac)],[(.ret,qS [zaa 6,Xaa 7] [(14,zac)]),(.exit 0,qS [sP 1 RI,Uaa 2,zaa 6,sP 11 RI,Uaa 12,Uaa 13,Xaa 14] [(8,yab),(14,zac)])]⟩]⟩
def oj:Ctr:=⟨63,121,[.agg yab,shU RI,shU I64],[],[⟨Uah,[.agg 2,.one],[]⟩],ap4 i7⟩
theorem tL:Lk 1 oj:=ls tN aN
def ky(a0:List (Int))(a1:Int)(a2:List (Int))(a3:Int)(a4:Int):Option (T0n):=
bif(a3==2)then(let x0:Int:=(wk .u16 (a4-a1));
some (a3,x0,0,0,()))else
bif(a3==1)then(let x0:Int:=(wk .i64 a4);
(i7 a0 a1 a2 x0).bind λ(x1,x2,x3,_)=>
(bif(!x3)then(let x4:Int:=(wk .i64 a4);
some (a3,a4,0,0,0,0,(-1),x4,()))else
some (a3,a4,0,0,0,0,x1,x2,()):Option (T1j)).bind λ(x4,x5,x6,x7,x8,x9,ac)=>
some (x4,0,ac))else
some (a3,a4,0,0,())
def wF:X.Cfg:=⟨E0,[oj],[],[⟨7,0,qE,[(.normal,qS [zaa 5,zaa 6,zaa 7] [(12,Uab),(14,Zag),(16,zac)])]⟩]⟩
def qk:Ctr:=⟨24,122,[.agg yab,shU RI,.agg Uab],[],[⟨Zag,[.agg 4],[]⟩],ap5 ky⟩
theorem wm:Lk 2 qk:=ls wF (aC tL aN)
def fV:T2h->Option (T2h⊕T2j):=λ(v0,v1,v2,v3,v4,v5,v6,v7,v8,v9,v10,v11,v12,_)=>
bif(decide (v6<v5))then((i8 v9 v10 v0 v1 v6).bind λ(x0,x1,_)=>
(nE v7 v8 x0).bind λ(x2,x3,x4,_)=>
(ky v9 v10 v0 x2 x3).bind λ(x5,x6,x7,x8,_)=>
let x9:LDCn:=[(x5,(x6,(x7,x8)))];
bif(dY 24 v12.length x9.length)then let ac:LDCn:=(List.append v12 x9);
let ae:=w64 (v6+1);
some (.inl (v0,v1,v2,v3,v4,v5,ae,v7,v8,v9,v10,v11,ac,()))else none)else
some (.inr (v0,v1,v2,v3,v4,v5,v6,false,v7,v8,v9,v10,v11,v12,()))
def fU:T1H->Option (T1H⊕T1U):=λ(v0,v1,v2,v3,v4,v5,v6,v7,v8,_)=>
bif(decide (v3<v2))then((d7 v3).bind λx0=>
(dI v1 x0).bind λx1=>
(dU fV NN (v0,v3,v1,v2,v3,x1,0,v4,v5,v6,v7,v8,[],())).bind λ(x2,x3,x4,x5,x6,x7,x8,x9,ac,ae,af,ah,ai,aj,_)=>
bif(dY 24 ai.length (List.length [aj]))then let ak:List LDCn:=(List.append ai [aj]);
let am:=w64 (x6+1);
some (.inl (x2,x4,x5,am,ac,ae,af,ah,ak,()))else none)else
some (.inr (v0,v1,v2,v3,false,v4,v5,v6,v7,v8,()))
def jK(a0:LDCe)(a1:LDLn)(a2:List (Int))(a3:Int)(a4:List (Int)):Option (LLCn×Unit):=
let x0:=dM a4.length;
(dU fU NN (a4,a4,x0,0,a0,a1,a2,a3,[],())).bind λ(x1,x2,x3,x4,x5,x6,x7,x8,x9,ac,_)=>
some (ac,())
def u6:X.Cfg:=⟨E0,[ol,vF,qk],[(52,(uaa KCn)),(53,(uaa KCn))],[⟨12,0,qS [sP 2 RI,zaa 3,zaa 4,Zaa 7 17,Uaa 8,Zaa 10 23,sP 16 RI,Uaa 17,Uaa 18,Uaa 23,Uaa 24] [(8,zad),(10,yab),(17,Uaf),(23,yag)],[(.exit 2,qS [sP 2 RI,zaa 3,zaa 4,Zaa 7 17,Uaa 8,Zaa 10 23,sP 16 RI,Uaa 17,Uaa 18,Uaa 23,Uaa 24,Xaa 25] [(8,zad),(10,yab),(17,Uaf),(23,yag)])]⟩,(lx 4 1 [sP 2 RI,zaa 3,zaa 4,Zaa 7 17,sP 16 RI,Uaa 17,Uaa 18] [(8,zad),(10,yab),(17,Uaf)] 19)]⟩
def pt:Ctr:=⟨7,123,[.agg zad,.agg yab,shU RI],[],[⟨Uaf,[.one],[]⟩],ap5 jK⟩
theorem uP:Lk 3 pt:=ls u6 (aC tM (aC Cn (aC wm aN)))
def f7:T0s->Option (T0s⊕((Bool×Unit)⊕(LDCn×LDCn×T0c))):=λ(v0,v1,v2,v3,_)=>
bif(decide (v3<v2))then((d7 v3).bind λx0=>
(dI v0 x0).bind λx1=>
(d7 v3).bind λx2=>
(dI v1 x2).bind λx3=>
let x4:Bool:=(!((x1.1==x3.1)&&((x1.2.1==x3.2.1)&&((x1.2.2.1==x3.2.2.1)&&((x1.2.2.2==x3.2.2.2)&&true)))));
bif x4 then(some (.inr (.inl (false,()))))else
let x5:=w64 (v3+1);
some (.inl (v0,v1,v2,x5,())))else
some (.inr (.inr (v0,v1,v2,v3,false,())))
def ix(a0:LDCn)(a1:LDCn):Option (Bool×Unit):=
let x0:=dM a0.length;
let x1:=dM a1.length;
bif(x0 != x1)then(some (false,()))else
let x2:=dM a0.length;
(match dU f7 NN (a0,a1,x2,0,())with
|none=>none
|some (.inl (x3,_))=>
some (x3,())
|some (.inr (x3,_))=>
some (true,()))
def sn:X.Cfg:=⟨E0,[],[],[⟨6,0,qS [sP 0 d9,sP 1 d9,Uaa 12,Uaa 13] [],[(.ret,qS [Xaa 4] []),(.exit 0,qS [sP 0 d9,sP 1 d9,Uaa 12,Uaa 13,Xaa 14] [])]⟩]⟩
def ni:Ctr:=⟨9,124,uL [d9,d9],[],[⟨uac,[.one],[]⟩],ap2 ix⟩
theorem si:Lk 1 ni:=ls sn aN
def rJ:Ctr:=⟨10,125,[],[],[⟨uac,[.one],[]⟩],λh=>nF⟩
theorem yC:Lvl E0 TT libB 1 rJ:=(K6 (LP rfl) uC).mono (by decide)
def fC:Int×Int×LLCn×LLCn×Unit->Option ((Int×Int×LLCn×LLCn×Unit)⊕((Bool×Unit)⊕(Int×Int×Bool×LLCn×LLCn×Unit))):=λ(v0,v1,v2,v3,_)=>
bif(decide (v1<v0))then((d7 v1).bind λx0=>
(dI v2 x0).bind λx1=>
(dI v2 x0).bind λx2=>
(d7 v1).bind λx3=>
(dI v3 x3).bind λx4=>
(dI v3 x3).bind λx5=>
(dI v2 x0).bind λx6=>
(dI v3 x3).bind λx7=>
(ix x6 x7).bind λ(x8,_)=>
bif(!x8)then(some (.inr (.inl (false,()))))else
let x9:=w64 (v1+1);
some (.inl (v0,x9,v2,v3,())))else
some (.inr (.inr (v0,v1,false,v2,v3,())))
def iB(a0:List (Int)):Option (Bool×Unit):=
(kC a0 0).bind λ(x0,x1,x2,x3,x4,x5,x6,_)=>
(jK x5 x6 x3 x4 x1).bind λ(ac,_)=>
(ia x5 x6 x3 x4 x1).bind λ(ae,_)=>
let af:=dM ac.length;
let ah:=dM ae.length;
bif(af != ah)then(some (false,()))else
let ai:=dM ae.length;
(match dU fC NN (ai,0,ac,ae,())with
|none=>none
|some (.inl (aj,_))=>
some (aj,())
|some (.inr (aj,_))=>
(nF).bind λ(aq,_)=>
some (aq,()))
def pV:X.Cfg:=⟨E0,[qn,pt,me,ni,rJ],[],[⟨8,0,qS [Zaa 5 13,Zaa 6 15,Uaa 34,Uaa 35] [(13,Uaf),(15,Uaf)],[(.ret,qS [Xaa 2] []),(.exit 0,qS [Zaa 5 13,Zaa 6 15,Uaa 34,Uaa 35,Xaa 36] [(13,Uaf),(15,Uaf)])]⟩]⟩
def la:Ctr:=⟨3,126,uL [RI],[],[⟨uac,[.one],[]⟩],ap1 iB⟩
theorem k_law05_CacheRegions:Lk 11 la:=ls pV (aC wq (aC uP (aC oV (aC si (aC yC aN)))))
end
end Go.Proofs.YtilofbdgkiloiaaGreat
namespace Go.Proofs.YtilofbdgkiloiaaGreat
set_option maxRecDepth 100000
noncomputable section
end
end Go.Proofs.YtilofbdgkiloiaaGreat
namespace Go.Proofs.YtilofbdgkiloiaaGreat
open Go.RowKit
theorem MR:(Tryz.prog.funcs.all λfn=>!(fn.name=="runtime.NumGoroutine"))=true:=by kernel_rfl
theorem EY:py Tryz.prog 5:=by
 obtain⟨fn,hf,hb⟩:∃fn,Tryz.prog.funcs[5]?=some fn/\fn.body.isSome=true:=by
  have hs:(match Tryz.prog.funcs[5]? with|some fn=>fn.body.isSome|none=>false)=true:=by kernel_rfl
  cases h:Tryz.prog.funcs[5]? with
  |none=>rw[h]at hs;cases hs
  |some fn=>rw[h]at hs;exact⟨fn,rfl,hs⟩
 obtain⟨c,hc⟩:=Option.isSome_iff_exists.1 hb;refine Bv hf ?_ hc;obtain⟨hlt,he⟩:=Array.getElem?_eq_some_iff.1 hf;have:=Array.all_eq_true.1 MR 5 hlt;rw[he]at this;simpa using this
def LC(x:Value)(w:World)(e:Ending)(w':World):Prop:=e=.returned (.pointer (some ⟨w.heap.size,0,none⟩))/\w'=w.alloc (.cells #[x,.int .i64 0] 64)
theorem K0(x:Value)(hx:x.oneCell'=true)(w:World):
 Calls Tryz.prog 5 #[x] w (LC x w):=by
 cases x
 all_goals first
  |(go_enter Tryz.func5,Tryz.ntmps5
    go_wp2
    go_ret
    exact⟨rfl,rfl⟩)
  |simp[Value.oneCell']at hx
theorem e0_ok:FL Tryz.prog E0:=by
 intro f n tm h;simp only[E0]at h;split at h
 ·rename_i e;subst e
  injection h with h
  injection h with h1 h2
  subst h1 h2;refine⟨EY,λx hx=>?_,64,λl2 w hl Zq=>?_⟩
  ·simp only[List.mem_cons,List.not_mem_nil,or_false]at hx;rcases hx with hx|hx
   ·injection hx
   ·injection hx with hx;rw[hx];rfl
  ·match l2,hl with
   | [x],_=>exact K0 x (Zq x (by simp[bxV])) w
 ·simp at h
def Ok{α:Type}(o:Option α)(Q:α->Prop):Prop:=∃a,o=some a/\Q a
section
variable {α β:Type}
theorem Ok.ret{a:α}{Q:α->Prop}(h:Q a):Ok (some a) Q:=⟨a,rfl,h⟩
theorem Ok.bind{o:Option α}{f:α->Option β}{P:α->Prop}{Q:β->Prop}(h:Ok o P)(h2:∀a,P a->Ok (f a) Q):Ok (o.bind f) Q:=by
 obtain⟨a,rfl,h1⟩:=h
 simp_all
theorem Ok.mono{o:Option α}{P Q:α->Prop}(h:Ok o P)(h2:∀a,P a->Q a):Ok o Q:=by
 have ⟨a,e,h1⟩:=h;exact⟨a,e,h2 a h1⟩
theorem Ok.cond{c:Bool}{a b:Option α}{Q:α->Prop}(h1:c=true->Ok a Q)(h2:c=false->Ok b Q):Ok (bif c then a else b) Q:=by
 grind
class BP (b:Bool) (P N:outParam Prop):Prop where
 t:b=true->P
 f:b=false->N
instance (priority:=low) bpVar {b:Bool}:BP b (b=true) (b=false):=⟨id,id⟩
instance Nm {p:Prop}{i:Decidable p}:BP (@decide p i) p (¬p):=⟨of_decide_eq_true,of_decide_eq_false⟩
instance NA {α:Type}[BEq α][LawfulBEq α]{a b:α}:BP (a==b) (a=b) (¬a=b):=⟨eq_of_beq,λh=>beq_eq_false_iff_ne.1 h⟩
instance Nz {α:Type}[BEq α][LawfulBEq α]{a b:α}:BP (a != b) (¬a=b) (a=b):=⟨λh=>bne_iff_ne.1 h,λh=>bne_eq_false_iff_eq.1 h⟩
instance Nl {b:Bool}{P N:Prop}[h:BP b P N]:BP (!b) N P:=⟨λe=>h.f (by simpa using e),λe=>h.t (by simpa using e)⟩
theorem dF{c:Bool}{P N:Prop}[h:BP c P N]{a b:Option α}{Q:α->Prop}(h1:P->Ok a Q)(h2:N->Ok b Q):Ok (bif c then a else b) Q:=by
 cases hc:c with
 |true=>exact h1 (h.t hc)
 |false=>exact h2 (h.f hc)
theorem Ok.get{l:List α}{i:Nat}{f:α->Option β}{Q:β->Prop}(h:i<l.length)(h2:∀a,l[i]?=some a->Ok (f a) Q):Ok ((dI l i).bind f) Q:=by
 have e:dI l i=some l[i]:=oGE h
 simp_all
theorem Ok.nat{x:Int}{f:Nat->Option β}{Q:β->Prop}(h:0<=x)(h2:∀n:Nat,x=n->Ok (f n) Q):Ok ((d7 x).bind f) Q:=by
 obtain⟨n,rfl⟩:∃n:Nat,x=n:=⟨x.toNat,by omega⟩;exact h2 n rfl
theorem Ok.val{v:α}{f:α->Option β}{Q:β->Prop}(h:∀x,x=v->Ok (f x) Q):Ok (f v) Q:=h v rfl
theorem dG{c:Bool}{a b:Option α}{Q:α->Prop}(hc:c=true)(h1:Ok a Q):Ok (bif c then a else b) Q:=by simp_all
theorem fF{S T:Type}{f:S->Option (S⊕T)}(P:S->Prop)(R:T->Prop)(m:S->Nat){n:Nat}{s:S}(hs:P s)(hm:m s<n)
 (h:∀s,P s->Ok (f s) λr=>match r with|.inl s'=>P s'/\m s'<m s|.inr t=>R t):Ok (dU f n s) R:=by
 induction n generalizing s with
 |zero=>omega
 |succ n ih=>
  have ⟨r,e,hr⟩:=h s hs
  cases r with
  |inl s'=>
   have ⟨t,e2,hq⟩:=ih hr.1 (by omega);exact⟨t,by simp[dU,e];exact e2,hq⟩
  |inr t=>exact⟨t,by simp[dU,e],hr⟩
theorem Ok.loop{S T:Type}{f:S->Option (S⊕T)}{g:T->Option β}{Q:β->Prop}(P:S->Prop)(R:T->Prop)(m:S->Nat){n:Nat}{s:S}(hs:P s)(hm:m s<n)
 (h:∀s,P s->Ok (f s) λr=>match r with|.inl s'=>P s'/\m s'<m s|.inr t=>R t)(hg:∀t,R t->Ok (g t) Q):Ok ((dU f n s).bind g) Q:=(fF P R m hs hm h).bind hg
end
theorem dP{x:Int}(h1:-9223372036854775808<=x)(h2:x<=9223372036854775807):w64 x=x:=Im h1 h2
theorem dL(n:Nat):d7 (n:Int)=some n:=rfl
theorem dV(n:Nat):dM n=(n:Int):=rfl
theorem dO{α:Type}{l:List α}{i:Nat}{a:α}(h:l[i]?=some a):a∈l:=List.mem_of_getElem? h
def W16(x:Int):Prop:=0<=x/\x<=65535
theorem dX{x:Int}(h0:0<=x)(h1:x<=65535):wk .u16 x=x:=by
 unfold wk;rw[xJ];omega
theorem dT{x:Int}(h0:-9223372036854775808<=x)(h1:x<=9223372036854775807):wk .i64 x=x:=dP h0 h1
theorem dS{b n m:Nat}(h:b<=1000/\n+m<=1000000):dY b n m=true:=by
 have:=Nat.mul_le_mul h.2 h.1;simp[dY];omega
structure DOk (l:List Int)(k:Int):Prop where
 num:∀x∈l,Ke x
 len:l.length<=maxLen
 lo:0<=k
 hi:k<=l.length
theorem zO{l:List Int}(h:∀x∈l,Ke x)(hl:l.length<=maxLen):DOk l 0:=⟨h,hl,by omega,by omega⟩
theorem J5{a b:Int}(ha:Ke a)(hb:0<b)(ZW:b<=9223372036854775807):∃v,i9 a b=some (v,())/\0<=v/\v<b:=by
 have hne:(b != 0)=true:=by simp;omega
 have hm:=Int.tmod_lt_of_pos a hb
 have hm2:-b<Int.tmod a b:=by
  have:=Int.tmod_lt_of_pos (-a) hb;rw[Int.neg_tmod]at this;omega
 unfold i9;simp[hne];by_cases h:Int.tmod a b<0
 ·refine⟨Int.tmod a b+b,?_,by omega,by omega⟩;simp[h,decide_true];rw[dP (by omega) (by omega)]
 ·refine⟨Int.tmod a b,?_,by omega,hm⟩;simp[h,decide_false,oCF]
section
variable {β:Type} {l:List Int} {k n:Int} {Q:β->Prop}
theorem L7{a b:Int}{f:Int×Unit->Option β}(ha:Ke a)(hb:0<b)(ZW:b<=9223372036854775807)(K:∀v,0<=v->v<b->Ok (f (v,())) Q):Ok ((i9 a b).bind f) Q:=by
 have ⟨v,e,h0,h1⟩:=J5 ha hb ZW
 simp_all
theorem fh{f:Int×List Int×Int×Unit->Option β}(h:DOk l k)(hn:0<n)(U5:n<=9223372036854775807)(K:∀v k',0<=v->v<n->DOk l k'->Ok (f (v,l,k',())) Q):Ok ((dK n l k).bind f) Q:=by
 have hl:=h.len;have Qm:=h.lo
 have Xa:maxLen<=9223372036854775807:=by decide
 by_cases hk:k>=(l.length:Int)
 ·have e:dK n l k=some (0,l,k,()):=by unfold dK;simp[dV,hk]
  simp_all
 ·obtain⟨j,rfl⟩:∃j:Nat,k=j:=⟨k.toNat,by omega⟩
  have hj:j<l.length:=by omega
  obtain⟨v,hv,h0,h1⟩:=J5 (h.num _ (List.getElem_mem hj)) hn U5
  have e:dK n l j=some (v,l,(j:Int)+1,()):=by
   unfold dK;delta dM
   try dsimp only
   rw[dP (x:=(j:Int)+1) (by omega) (by omega),dP (x:=(j:Int)+1-1) (by omega) (by omega)];rw[show(j:Int)+1-1=j by omega,dL];simp[hk,decide_false,oCF,oBS,dI,oGE hj,xL,hv]
  rw[e];exact K v _ h0 h1 ⟨h.num,hl,by omega,by omega⟩
theorem Df{f:Int×List Int×Int×Unit->Option β}(h:DOk l k)(K:∀v k',0<=v->v<=65535->DOk l k'->Ok (f (v,l,k',())) Q):Ok ((ie l k).bind f) Q:=by
 have hw:Ok (ie l k) λr=>∃v k',r=(v,l,k',())/\0<=v/\v<=65535/\DOk l k':=by
  unfold ie
  (with_reducible refine fh (by assumption) (by omega) (by omega) (λv k a b d=>?_);try dsimp only)
  refine Ok.bind (P:=λr=>∃b,r=(v,b,l,k,())) ?_ ?_
  ·repeat ((with_reducible refine dF (λhc=>?_) λhc=>?_);· exact Ok.ret ⟨_,rfl⟩)
   exact Ok.ret ⟨_,rfl⟩
  ·rintro _ ⟨b,rfl⟩;refine Ok.cond (λ_=>?_) λ_=>?_
   ·(with_reducible refine fh (by assumption) (by omega) (by omega) (λv k a b d=>?_);try dsimp only)
    (simp (disch:=omega) only [dP,dX,dT,dV])
    exact Ok.ret ⟨_,_,rfl,by omega,by omega,by assumption⟩
   ·(with_reducible refine dF (λhc=>?_) λhc=>?_)
    ·(with_reducible refine fh (by assumption) (by omega) (by omega) (λv k a b d=>?_);try dsimp only)
     (simp (disch:=omega) only [dP,dX,dT,dV])
     exact Ok.ret ⟨_,_,rfl,by omega,by omega,by assumption⟩
    ·(with_reducible refine fh (by omega) (by omega) (by omega) (λv k a b d=>?_);try dsimp only)
     (simp (disch:=omega) only [dP,dX,dT,dV])
     exact Ok.ret ⟨_,_,rfl,by omega,by omega,by omega⟩
 refine hw.bind ?_
 simp_all
end
def vK(s:List Int):Prop:=1<=s.length/\s.length<=4/\∀x∈s,1<=x/\x<=32
theorem Nd{P:Int->Prop}{a b c:Int}(ha:P a)(hb:P b)(hc:P c):∀x∈[a,b,c],P x:=by
 simp_all
theorem Iw{l:List Int}{k:Int}(h:DOk l k):Ok (mD l k) λr=>∃s k',r=(s,l,k',())/\vK s/\DOk l k':=by
 unfold mD
 (with_reducible refine fh (by assumption) (by omega) (by omega) (λv0 k0 a0 b0 d0=>?_);try dsimp only)
 (simp (disch:=omega) only [dP,dX,dT,dV])
 (with_reducible refine fh (by assumption) (by omega) (by omega) (λv1 k1 a1 b1 d1=>?_);try dsimp only)
 refine Ok.loop (P:=λ((c,l',k',s,_):Int×List Int×Int×List Int×Unit)=>l'=l/\DOk l k'/\0<=c/\c+s.length<=4/\1<=s.length/\∀x∈s,1<=x/\x<=32)
  (R:=λ((_,_,l',k',s,_):Int×Bool×List Int×Int×List Int×Unit)=>l'=l/\DOk l k'/\vK s) (m:=λs=>s.1.toNat) ⟨rfl,d1,a1,by simp;omega,by simp,by simp;omega⟩ (by unfold NN;dsimp only;omega) ?_ ?_
 ·rintro⟨c,l',k3,s,_⟩ ⟨rfl,X4,hc0,VV,hs1,hs⟩;dsimp only at *;unfold oK;dsimp only
  (with_reducible refine dF (λhc=>?_) λhc=>?_)
  ·(with_reducible refine fh (by assumption) (by omega) (by omega) (λv2 k2 a2 b2 d2=>?_);try dsimp only)
   (with_reducible refine Ok.nat (by omega) (λj hj=>?_);try dsimp only)
   have Zx:∀x∈[(6:Int),12,32],6<=x/\x<=32:=by simp_all
   refine Ok.get (by simp;omega) λa ha=>?_;refine Ok.get (by simp;omega) λb hb=>?_;have h7:=Zx b (dO hb)
   (with_reducible refine fh (by assumption) (by omega) (by omega) (λv3 k3 a3 b3 d3=>?_);try dsimp only)
   (simp (disch:=omega) only [dP,dX,dT,dV])
   refine dG (dS (by simp;omega)) ?_;refine Ok.ret ⟨⟨rfl,by assumption,by omega,?_,?_,?_⟩,?_⟩
   ·simp;omega
   ·simp
   ·intro x hx;simp at hx;rcases hx with hx|rfl
    ·exact hs x hx
    ·omega
   ·dsimp only;omega
  ·exact Ok.ret ⟨rfl,X4,hs1,by dsimp only;omega,hs⟩
 ·rintro⟨a,b,l',k3,s,_⟩ ⟨rfl,X4,hs⟩;exact Ok.ret ⟨_,_,rfl,hs,X4⟩
def ot(op:Int):Bool:=!(op==18||op==23||op==0||op==24)
def oq(op:Int):Bool:=!(op==18||op==23||op==0||op==24||op==1||op==15||op==19||op==20||op==21||op==22)
def oo(op:Int):Bool:=!(op==18||op==23||op==0||op==24||op==1||op==15||op==19||op==20||op==21||op==22||op==2||op==16||op==17)
def om(op:Int):Bool:=op==1||op==15||op==19||op==20||op==21||op==16||op==17||op==18||op==23
def mi(op:Int):Bool:=op==18||op==19||op==20||op==21
theorem FQ{op:Int}(h0:0<=op)(h1:op<=24):jg op=some (ot op,oq op,oo op,om op,()):=by
 obtain⟨n,rfl⟩:∃n:Nat,op=n:=⟨op.toNat,by omega⟩
 have hn:n<25:=by omega
 have key:∀n:Fin 25,(jg ((n.val:Nat):Int)).map (λx=>(x.1,x.2.1,x.2.2.1,x.2.2.2.1))=some (ot (n.val:Nat),oq (n.val:Nat),oo (n.val:Nat),om (n.val:Nat)):=by decide
 have:=key ⟨n,hn⟩
 cases h:jg (n:Int)with
 |none=>simp_all
 |some x=>
  obtain⟨a,b,c,d,_⟩:=x
  simp_all
theorem uQ(op:Int):gw op=some (mi op,()):=by
 unfold gw mi
 grind
structure gZ (n m:Int)(i:DIn):Prop where
 op:0<=i.1/\i.1<=24
 a:0<=i.2.1/\i.2.1<8/\(ot i.1=false->i.2.1=0)
 b:0<=i.2.2.1/\i.2.2.1<8/\(oq i.1=false->i.2.2.1=0)
 c:0<=i.2.2.2.1/\i.2.2.2.1<8/\(oo i.1=false->i.2.2.2.1=0)
 imm:0<=i.2.2.2.2/\i.2.2.2.2<=65535/\(om i.1=false->i.2.2.2.2=0)
 lea:i.1=15->i.2.2.2.2<n
 sys:i.1=23->i.2.2.2.2<=15
 jmp:mi i.1=true->i.2.2.2.2<m
theorem ins_mk{n m o a b c i:Int}(ho:0<=o/\o<=24)(ha:0<=a/\a<8)(hb:0<=b/\b<8)(hc:0<=c/\c<8)(hi:0<=i/\i<=65535)(hA:ot o=true\/a=0)(hB:oq o=true\/b=0)(hC:oo o=true\/c=0)(hI:om o=true\/i=0)
 (hl:o=15->i<n)(hs:o=23->i<=15)(hj:mi o=true->i<m):gZ n m (o,a,b,c,i):=
 ⟨ho,⟨ha.1,ha.2,λh=>hA.elim (λh'=>by simp_all) id⟩,⟨hb.1,hb.2,λh=>hB.elim (λh'=>by simp_all) id⟩,
  ⟨hc.1,hc.2,λh=>hC.elim (λh'=>by simp_all) id⟩,⟨hi.1,hi.2,λh=>hI.elim (λh'=>by simp_all) id⟩,hl,hs,hj⟩
theorem Ap{n m r v:Int}(h:0<=r/\r<8)(hv:0<=v/\v<=65535):gZ n m (1,r,0,0,v):=ins_mk (by decide) h (by decide) (by decide) hv (.inl (by decide)) (.inr rfl) (.inr rfl) (.inl (by decide)) (by omega) (by omega) (λh=>absurd h (by decide))
theorem Cb{n m r v:Int}(h:0<=r/\r<8)(hv:0<=v/\v<8):gZ n m (2,r,v,0,0):=ins_mk (by decide) h hv (by decide) (by decide) (.inl (by decide)) (.inl (by decide)) (.inr rfl) (.inr rfl) (by omega) (by omega) (λh=>absurd h (by decide))
theorem um{n m v:Int}(hv:0<=v/\v<=15):gZ n m (23,0,0,0,v):=ins_mk (by decide) (by decide) (by decide) (by decide) (by omega) (.inr rfl) (.inr rfl) (.inr rfl) (.inl (by decide)) (by omega) (by omega) (λh=>absurd h (by decide))
theorem Ce{n m r v:Int}(h:0<=r/\r<8)(hv:0<=v/\v<n)(hn:n<=4):gZ n m (15,r,0,0,v):=ins_mk (by decide) h (by decide) (by decide) (by omega) (.inl (by decide)) (.inr rfl) (.inr rfl) (.inl (by decide)) (by omega) (by omega) (λh=>absurd h (by decide))
theorem FV{n m o a b v:Int}(ho:o=16\/o=17)(h:0<=a/\a<8)(hb:0<=b/\b<8)(hv:0<=v/\v<=65535):gZ n m (o,a,b,0,v):=by
 rcases ho with rfl|rfl
 all_goals exact ins_mk (by decide) h hb (by decide) hv (.inl (by decide)) (.inl (by decide)) (.inr rfl) (.inl (by decide)) (by omega) (by omega) (λh=>absurd h (by decide))
theorem B8{n m o a b c:Int}(ho:3<=o/\o<=14)(h:0<=a/\a<8)(hb:0<=b/\b<8)(hc:0<=c/\c<8):gZ n m (o,a,b,c,0):=
 ins_mk (by omega) h hb hc (by decide) (.inl (by unfold ot;simp;omega)) (.inl (by unfold oq;simp;omega)) (.inl (by unfold oo;simp;omega)) (.inr rfl) (by omega) (by omega) (λh=>by unfold mi at h;simp at h;omega)
theorem K8{n m v:Int}(hv:0<=v/\v<=65535)(hm:v<m):gZ n m (18,0,0,0,v):=ins_mk (by decide) (by decide) (by decide) (by decide) hv (.inr rfl) (.inr rfl) (.inr rfl) (.inl (by decide)) (by omega) (by omega) (λ_=>hm)
theorem KP{n m:Int}:gZ n m (24,0,0,0,0):=ins_mk (by decide) (by decide) (by decide) (by decide) (by decide) (.inr rfl) (.inr rfl) (.inr rfl) (.inr rfl) (by omega) (by omega) (λh=>absurd h (by decide))
theorem gZ.mono{n m m':Int}{i:DIn}(h:gZ n m i)(hm:m<=m'):gZ n m' i:=⟨h.op,h.a,h.b,h.c,h.imm,h.lea,h.sys,λhj=>by have:=h.jmp hj;omega⟩
theorem Cp{n m a v:Int}(h:0<=a/\a<8)(hv:0<=v/\v<=65535)(hm:v<m):gZ n m (20,a,0,0,v):=ins_mk (by decide) h (by decide) (by decide) hv (.inl (by decide)) (.inr rfl) (.inr rfl) (.inl (by decide)) (by omega) (by omega) (λ_=>hm)
theorem Jk{n X3 k:Int}{l:List Int}(h:DOk l k)(hn:1<=n/\n<=4)(hm:1<=X3/\X3<=100):Ok (mE n X3 l k) λr=>∃o a b c i k',r=(o,a,b,c,i,l,k',())/\gZ n X3 (o,a,b,c,i)/\DOk l k':=by
 unfold mE
 (with_reducible refine fh (by assumption) (by omega) (by omega) (λv0 k0 a0 b0 d0=>?_);try dsimp only)
 rw[FQ (by omega) (by omega)];simp only[oBS];refine Ok.bind (P:=λr=>∃x k',r=(n,X3,l,k',0,0,0,0,0,v0,x,0,0,0,ot v0,oq v0,oo v0,om v0,())/\0<=x/\x<8/\(ot v0=false->x=0)/\DOk l k') ?_ ?_
 ·refine Ok.cond (λhc=>?_) λhc=>Ok.ret ⟨_,_,rfl,by omega,by omega,λ_=>rfl,d0⟩
  (with_reducible refine fh (by assumption) (by omega) (by omega) (λv1 k1 a1 b1 d1=>?_);try dsimp only)
  exact Ok.ret ⟨_,_,rfl,a1,b1,(λhh=>by rw[hc]at hh;cases hh),d1⟩
 rintro _ ⟨xa,k1,rfl,Oj,XN,W8,d1⟩;dsimp only;refine Ok.bind (P:=λr=>∃x k',r=(n,X3,l,k',0,0,0,0,0,v0,xa,x,0,0,ot v0,oq v0,oo v0,om v0,())/\0<=x/\x<8/\(oq v0=false->x=0)/\DOk l k') ?_ ?_
 ·refine Ok.cond (λhc=>?_) λhc=>Ok.ret ⟨_,_,rfl,by omega,by omega,λ_=>rfl,d1⟩
  (with_reducible refine fh (by assumption) (by omega) (by omega) (λv2 k2 a2 b2 d2=>?_);try dsimp only)
  exact Ok.ret ⟨_,_,rfl,a2,b2,(λhh=>by rw[hc]at hh;cases hh),d2⟩
 rintro _ ⟨xb,k2,rfl,Re,hb1,ZW,d2⟩;dsimp only;refine Ok.bind (P:=λr=>∃x k',r=(n,X3,l,k',0,0,0,0,0,v0,xa,xb,x,0,ot v0,oq v0,oo v0,om v0,())/\0<=x/\x<8/\(oo v0=false->x=0)/\DOk l k') ?_ ?_
 ·refine Ok.cond (λhc=>?_) λhc=>Ok.ret ⟨_,_,rfl,by omega,by omega,λ_=>rfl,d2⟩
  (with_reducible refine fh (by assumption) (by omega) (by omega) (λv3 k3 a3 b3 d3=>?_);try dsimp only)
  exact Ok.ret ⟨_,_,rfl,a3,b3,(λhh=>by rw[hc]at hh;cases hh),d3⟩
 rintro _ ⟨xc,k3,rfl,hc0,ZS,ZK,d3⟩;dsimp only;rw[uQ];simp only[oBS];refine Ok.bind (P:=λr=>∃x k',r=(l,k',0,0,0,0,0,v0,xa,xb,xc,x,())/\0<=x/\x<=65535/\(om v0=false->x=0)/\(v0=15->x<n)/\(v0=23->x<=15)/\(mi v0=true->x<X3)/\DOk l k') ?_ ?_
 ·refine Ok.cond (λhj=>?_) λhj=>?_
  ·(with_reducible refine fh (by assumption) (by omega) (by omega) (λv4 k4 a4 b4 d4=>?_);try dsimp only)
   have hne:v0≠15/\v0≠23:=by constructor<;>(rintro rfl;exact absurd hj (by decide))
   exact Ok.ret ⟨_,_,rfl,a4,by omega,(λhh=>by
    have:om v0=true:=by unfold mi at hj;unfold om;simp at hj⊢;omega
    rw[this]at hh;cases hh),by omega,by omega,λ_=>b4,d4⟩
  ·(with_reducible refine dF (λUu=>?_) λUu=>?_)
   ·subst Uu
    (with_reducible refine fh (by assumption) (by omega) (by omega) (λv4 k4 a4 b4 d4=>?_);try dsimp only)
    exact Ok.ret ⟨_,_,rfl,a4,by omega,λhh=>absurd hh (by decide),by omega,by omega,λhh=>absurd hh (by decide),d4⟩
   ·(with_reducible refine dF (λP6=>?_) λP6=>?_)
    ·subst P6
     (with_reducible refine fh (by assumption) (by omega) (by omega) (λv4 k4 a4 b4 d4=>?_);try dsimp only)
     exact Ok.ret ⟨_,_,rfl,a4,by omega,λhh=>absurd hh (by decide),by omega,by omega,λhh=>absurd hh (by decide),d4⟩
    ·refine Ok.cond (λhu=>?_) λhu=>?_
     ·(with_reducible refine Df (by assumption) (λv4 k4 a4 b4 d4=>?_);try dsimp only)
      (simp (disch:=omega) only [dP,dX,dT,dV])
      exact Ok.ret ⟨_,_,rfl,a4,by omega,(λhh=>by rw[hu]at hh;cases hh),by omega,by omega,(λhh=>by rw[show mi v0=false from hj]at hh;cases hh),d4⟩
     ·exact Ok.ret ⟨_,_,rfl,by omega,by omega,λ_=>rfl,by omega,by omega,(λhh=>by rw[show mi v0=false from hj]at hh;cases hh),d3⟩
 rintro _ ⟨xi,k4,rfl,RD,W9,U1,OH,OI,OJ,d4⟩;exact Ok.ret ⟨_,_,_,_,_,_,rfl,⟨⟨a0,by dsimp only;omega⟩,⟨Oj,XN,W8⟩,⟨Re,hb1,ZW⟩,⟨hc0,ZS,ZK⟩,⟨RD,W9,U1⟩,OH,OI,OJ⟩,d4⟩
theorem lM{α β:Type}{l:List α}{i:Nat}{f:α->Option β}{Q:β->Prop}(P:α->Prop)(h:i<l.length)(hP:∀x∈l,P x)(h2:∀a,P a->Ok (f a) Q):Ok ((dI l i).bind f) Q:=Ok.get h λa ha=>h2 a (hP a (dO ha))
theorem ef{α:Type}{P:α->Prop}:∀x∈([]:List α),P x:=λ_ h=>by cases h
theorem all_cons{α:Type}{P:α->Prop}{a:α}{l:List α}(h:P a)(h2:∀x∈l,P x):∀x∈a::l,P x:=by
 simp_all
theorem Ma(a b:Int):ic a b=some (1,a,0,0,b,()):=rfl
theorem L6(a b:Int):lu a b=some (2,a,b,0,0,()):=rfl
theorem JY(a:Int):gF a=some (23,0,0,0,a,()):=rfl
theorem Ni{x:Int}(h:1<=x):1<=mmR false 5 x/\mmR false 5 x<=5:=by
 unfold mmR;simp;omega
def Eh(n at_:Int)(l:List Int)(r:List DIn×List Int×Int×Unit):Prop:=∃xs k',r=(xs,l,k',())/\1<=xs.length/\xs.length<=6/\(∀i∈xs,gZ n (at_+xs.length) i)/\DOk l k'
theorem xZ{n at_:Int}{l:List Int}{xs:List DIn}{k:Int}(h1:1<=xs.length/\xs.length<=6)(h2:∀i∈xs,gZ n (at_+xs.length) i)(h3:DOk l k):Ok (some (xs,l,k,())) (Eh n at_ l):=Ok.ret ⟨xs,k,rfl,h1.1,h1.2,h2,h3⟩
theorem KY{s l:List Int}{at_ k:Int}(h:DOk l k)(hs:vK s)(ha:0<=at_/\at_<=99):Ok (nG s (at_+1) at_ l k) (Eh s.length at_ l):=by
 obtain⟨hs1,XG,hsz⟩:=hs
 have hn:1<=(s.length:Int)/\(s.length:Int)<=4:=by omega
 unfold nG;delta dM;simp only[Ma,L6,JY,oBS]
 (with_reducible refine fh (by assumption) (by omega) (by omega) (λvr kr ar br dr=>?_);try dsimp only)
 refine Ok.nat (by omega) λj hj=>?_;refine lM (λa=>1<=a/\a<=32) (by omega) hsz λz hz=>?_
 (simp (disch:=omega) only [dP,dX,dT,dV])
 have h5:=Ni (x:=z+1) (by omega);generalize mmR false 5 (z+1)=mm at h5
 (with_reducible refine fh (by assumption) (by omega) (by omega) (λvu ku au bu du=>?_);try dsimp only)
 (with_reducible refine fh (by assumption) (by omega) (by omega) (λvw kw aw bw dw=>?_);try dsimp only)
 iterate 19
  (with_reducible refine dF (λhcc=>?_) λhcc=>?_)
  ·repeat (first|(simp (disch:=omega) only [dP,dX,dT,dV])|(with_reducible refine fh (by assumption) (by omega) (by omega) (λv k a b d=>?_);try dsimp only)|(with_reducible refine Df (by assumption) (λv k a b d=>?_);try dsimp only)|(with_reducible refine Ok.nat (by omega) (λj hj=>?_);try dsimp only)|((with_reducible first|refine lM (λa=>1<=a/\a<=32) (by omega) (by assumption) (λe he=>?_)|refine lM (λa=>3<=a/\a<=14) (by simp only[oLC,List.length_nil];omega) (by(first|exact(all_cons (by omega) (all_cons (by omega) ef))|exact(all_cons (by omega) (all_cons (by omega) (all_cons (by omega) ef)))|exact(all_cons (by omega) (all_cons (by omega) (all_cons (by omega) (all_cons (by omega) (all_cons (by omega) (all_cons (by omega) (all_cons (by omega) (all_cons (by omega) ef)))))))))) (λe he=>?_)|refine lM (λa=>0<=a/\a<=15) (by simp only[oLC,List.length_nil];omega) (by(first|exact(all_cons (by omega) (all_cons (by omega) ef))|exact(all_cons (by omega) (all_cons (by omega) (all_cons (by omega) ef)))|exact(all_cons (by omega) (all_cons (by omega) (all_cons (by omega) (all_cons (by omega) (all_cons (by omega) (all_cons (by omega) (all_cons (by omega) (all_cons (by omega) ef)))))))))) (λe he=>?_)|refine lM (λa=>1<=a/\a<=100) (by simp only[oLC,List.length_nil];omega) (by(first|exact(all_cons (by omega) (all_cons (by omega) ef))|exact(all_cons (by omega) (all_cons (by omega) (all_cons (by omega) ef)))|exact(all_cons (by omega) (all_cons (by omega) (all_cons (by omega) (all_cons (by omega) (all_cons (by omega) (all_cons (by omega) (all_cons (by omega) (all_cons (by omega) ef)))))))))) (λe he=>?_));try dsimp only)|(with_reducible refine dG (dS (by first|omega|simp)) ?_;try dsimp only)|(refine lM (λ(a:List DIn)=>(1<=a.length/\a.length<=6)/\∀i∈a,gZ s.length (at_+a.length) i) (by simp only[oLC,List.length_nil];omega) (all_cons ⟨by simp,by((repeat' (first|exact ef|refine all_cons ?_ ?_|exact Ap (by omega) (by omega)|exact Cb (by omega) (by omega)|exact um (by omega)|exact Ce (by omega) (by omega) (by omega)|exact FV (by omega) (by omega) (by omega) (by omega)|exact B8 (by omega) (by omega) (by omega) (by omega)|exact Cp (by omega) (by omega) (by simp only[oLC,List.length_nil];omega)));done)⟩ (all_cons ⟨by simp,by((repeat' (first|exact ef|refine all_cons ?_ ?_|exact Ap (by omega) (by omega)|exact Cb (by omega) (by omega)|exact um (by omega)|exact Ce (by omega) (by omega) (by omega)|exact FV (by omega) (by omega) (by omega) (by omega)|exact B8 (by omega) (by omega) (by omega) (by omega)|exact Cp (by omega) (by omega) (by simp only[oLC,List.length_nil];omega)));done)⟩ ef)) (λe he=>?_);try dsimp only))
   first
    |exact xZ he.1 he.2 (by assumption)
    |(refine xZ (by simp) ?_ (by assumption);try simp only[List.append_eq,List.cons_append,List.nil_append]
      ((repeat' (first|exact ef|refine all_cons ?_ ?_|exact Ap (by omega) (by omega)|exact Cb (by omega) (by omega)|exact um (by omega)|exact Ce (by omega) (by omega) (by omega)|exact FV (by omega) (by omega) (by omega) (by omega)|exact B8 (by omega) (by omega) (by omega) (by omega)|exact Cp (by omega) (by omega) (by simp only[oLC,List.length_nil];omega)));done))
 refine(Jk (by assumption) hn (by omega)).bind ?_;rintro _ ⟨o,a,b,c,i,k',rfl,hi,hd⟩;exact xZ (by simp) (all_cons (hi.mono (by simp)) ef) hd
theorem iD{α:Type}{P:α->Prop}{l m:List α}(h:∀x∈l,P x)(h2:∀x∈m,P x):∀x∈List.append l m,P x:=λx hx=>(List.mem_append.1 (show x∈l++m from hx)).elim (h x) (h2 x)
theorem eV{α:Type}(l m:List α):(List.append l m).length=l.length+m.length:=List.length_append
theorem nn{l:List Int}{k n:Int}(h:DOk l k)(hn:0<=n/\n<=1000):Ok (fE n l k) λr=>∃ws k',r=(ws,l,k',())/\(ws.length:Int)<=n/\(∀w∈ws,W16 w)/\DOk l k':=by
 unfold fE
 (simp (disch:=omega) only [dP,dX,dT,dV])
 (with_reducible refine fh (by assumption) (by omega) (by omega) (λv0 k0 a0 b0 d0=>?_);try dsimp only)
 refine Ok.loop (P:=λ((c,l',k',s,_):Int×List Int×Int×List Int×Unit)=>l'=l/\DOk l k'/\0<=c/\c+s.length<=n/\∀x∈s,W16 x)
  (R:=λ((_,_,l',k',s,_):Int×Bool×List Int×Int×List Int×Unit)=>l'=l/\DOk l k'/\(s.length:Int)<=n/\∀x∈s,W16 x) (m:=λs=>s.1.toNat) ⟨rfl,d0,a0,by simp;omega,ef⟩ (by unfold NN;dsimp only;omega) ?_ ?_
 ·rintro⟨c,l',k3,s,_⟩ ⟨rfl,X4,hc0,VV,hs⟩;unfold oJ;dsimp only
  (with_reducible refine dF (λhcc=>?_) λhcc=>?_)
  ·(with_reducible refine Df (by assumption) (λv1 k1 a1 b1 d1=>?_);try dsimp only)
   refine dG (dS (by simp;omega)) ?_
   (simp (disch:=omega) only [dP,dX,dT,dV])
   exact Ok.ret ⟨⟨rfl,by omega,by omega,by rw[eV];simp;omega,iD hs (all_cons ⟨a1,b1⟩ ef)⟩,by omega⟩
  ·exact Ok.ret ⟨rfl,X4,by dsimp only;omega,hs⟩
 ·rintro⟨a,b,l',k3,s,_⟩ ⟨rfl,X4,hs,hw⟩;exact Ok.ret ⟨_,_,rfl,hs,hw,X4⟩
structure jX (code:List DIn)(s:List Int)(d:List (List Int)):Prop where
 sz:vK s
 len:d.length=s.length
 fit:∀(j:Nat) x n,d[j]?=some x->s[j]?=some n->(x.length:Int)<=n
 num:∀x∈d,∀w∈x,W16 w
 clen:1<=code.length/\code.length<=64
 ins:∀i∈code,gZ s.length code.length i
theorem DW{code:List DIn}{s:List Int}{d:List (List Int)}{l:List Int}{k:Int}(hp:jX code s d):
 Ok (dU gk NN ((code.length:Int),0,l,k,(),(),(),code,s,d,())) λr=>∃a b c,r=(a,b,c,l,k,(),(),(),code,s,d,()):=by
 have:=Ok.loop (f:=gk) (n:=NN) (Q:=λr=>∃a b c,r=(a,b,c,l,k,(),(),(),code,s,d,())) (s:=((code.length:Int),0,l,k,(),(),(),code,s,d,()))
  (P:=λs'=>∃i:Int,s'=((code.length:Int),i,l,k,(),(),(),code,s,d,())/\0<=i/\i<=code.length) (R:=λr=>∃a b c,r=(a,b,c,l,k,(),(),(),code,s,d,())) (m:=λs=>(s.1-s.2.1).toNat) ⟨0,rfl,by omega,by omega⟩ (by unfold NN;dsimp only;have:=hp.clen;omega) ?_ (λt ht=>Ok.ret ht)
 ·simp_all
 ·rintro _ ⟨i,rfl,RD,W9⟩;unfold gk;dsimp only;have hc:=hp.clen
  (with_reducible refine dF (λhcc=>?_) λhcc=>?_)
  ·refine Ok.bind (P:=λr=>r=((code.length:Int),i,l,k,(),(),(),code,s,d,())) ?_ ?_
   ·(with_reducible refine Ok.nat (by omega) (λj hj=>?_);try dsimp only)
    refine Ok.get (by omega) λx hx=>?_;have hin:=hp.ins x (dO hx);rw[uQ];refine Ok.cond (λOP=>?_) λ_=>Ok.ret rfl;refine Ok.nat (by omega) λj2 Xo=>?_;refine Ok.get (by omega) λy hy=>?_
    have hjj:j2=j:=by omega
    subst hjj;rw[hx]at hy
    injection hy with hy
    subst hy;have:=hin.jmp OP;refine Ok.cond (λhcc=>?_) (λhcc=>?_)
    ·have h9:(x.2.2.2.2:Int)>=(code.length:Int):=of_decide_eq_true hcc;omega
    ·exact Ok.ret rfl
   ·rintro _ rfl;dsimp only
    (simp (disch:=omega) only [dP,dX,dT,dV])
    exact Ok.ret ⟨⟨i+1,rfl,by omega,by omega⟩,by dsimp only;omega⟩
  ·exact Ok.ret ⟨_,_,_,rfl⟩
theorem EN{l:List Int}{k:Int}(h:DOk l k):Ok (kz l k) λr=>∃code s d k',r=(code,s,d,l,k',())/\jX code s d/\DOk l k':=by
 unfold kz;refine(Iw h).bind ?_;rintro _ ⟨s,k1,rfl,hs,hd⟩;obtain⟨hs1,XG,hsz⟩:=id hs;dsimp only;delta dM
 try dsimp only
 refine Ok.loop (P:=λs'=>∃k' d,s'=((s.length:Int),(d.length:Int),l,k',(),(),(),(),s,d,())/\DOk l k'/\d.length<=s.length/\(∀(j:Nat) x n,d[j]?=some x->s[j]?=some n->(x.length:Int)<=n)/\∀x∈d,∀w∈x,W16 w)
  (R:=λr=>∃a b c k' d,r=(a,b,c,l,k',(),(),(),(),s,d,())/\DOk l k'/\d.length=s.length/\(∀(j:Nat) x n,d[j]?=some x->s[j]?=some n->(x.length:Int)<=n)/\∀x∈d,∀w∈x,W16 w)
  (m:=λs=>(s.1-s.2.1).toNat) ⟨k1,[],rfl,hd,by simp,by simp,ef⟩ (by unfold NN;dsimp only;omega) ?_ ?_
 ·rintro _ ⟨k',d,rfl,YA,Tl,ZU,XC⟩;unfold mX;dsimp only
  (with_reducible refine dF (λhcc=>?_) λhcc=>?_)
  ·(with_reducible refine Ok.nat (by omega) (λj hj=>?_);try dsimp only)
   refine Ok.get (by omega) λx hx=>?_;refine Ok.get (by omega) λy hy=>?_
   have ZQ:j=d.length:=by omega
   subst ZQ;have W6:=hsz y (dO hy);refine(nn YA ⟨by omega,by omega⟩).bind ?_;rintro _ ⟨ws,k2,rfl,UI,Pq,hd2⟩;dsimp only;refine dG (dS (by simp;omega)) ?_
   (simp (disch:=omega) only [dP,dX,dT,dV])
   refine Ok.ret ⟨⟨k2,List.append d [ws],by rw[eV];simp,hd2,by rw[eV];simp;omega,?_,iD XC (all_cons Pq ef)⟩,by dsimp only;omega⟩;intro i x n hx hn;rw[show List.append d [ws]=d++[ws]from rfl,List.getElem?_append]at hx;split at hx
   ·exact ZU i x n hx hn
   ·rename_i Wm
    have:i-d.length=0:=by
     rcases Nat.eq_zero_or_pos (i-d.length)with h|h
     ·exact h
     ·rw[oGN (by simp;omega)]at hx;cases hx
    have hi:i=d.length:=by omega
    subst hi;simp at hx;subst hx;rw[hy]at hn
    injection hn with hn
    omega
  ·exact Ok.ret ⟨_,_,_,_,_,rfl,YA,by omega,ZU,XC⟩
 rintro _ ⟨a,b,c,k2,d,rfl,hd2,Tl,ZU,XC⟩;dsimp only
 (with_reducible refine fh (by assumption) (by omega) (by omega) (λv0 k0 a0 b0 d0=>?_);try dsimp only)
 (simp (disch:=omega) only [dP,dX,dT,dV])
 refine Ok.loop (P:=λs'=>∃i k' code,s'=(i,l,k',(),(),(),code,s,d,())/\0<=i/\i<=12/\DOk l k'/\code.length<=62/\∀i∈code,gZ s.length code.length i)
  (R:=λr=>∃a b k' code,r=(a,b,l,k',(),(),(),code,s,d,())/\DOk l k'/\code.length<=62/\∀i∈code,gZ s.length code.length i)
  (m:=λs=>s.1.toNat) ⟨_,_,[],rfl,by omega,by omega,d0,by simp,ef⟩ (by unfold NN;dsimp only;omega) ?_ ?_
 ·rintro _ ⟨i,k',code,rfl,RD,W9,YA,Ze,Yq⟩;unfold mW;dsimp only
  (with_reducible refine dF (λhcc=>?_) λhcc=>?_)
  ·refine Ok.bind (P:=λr=>∃k' code,r=(i,l,k',(),(),(),code,s,d,())/\DOk l k'/\code.length<=62/\∀i∈code,gZ s.length code.length i) ?_ ?_
   ·(simp (disch:=omega) only [dP,dX,dT,dV])
    refine(KY YA hs ⟨by omega,by omega⟩).bind ?_;rintro _ ⟨xs,k3,rfl,Z0,NE,Sc,X4⟩;dsimp only
    (simp (disch:=omega) only [dP,dX,dT,dV])
    (with_reducible refine dF (λhcc=>?_) λhcc=>?_)
    ·refine dG (dS (by omega)) ?_;refine Ok.ret ⟨_,_,rfl,X4,by rw[eV];omega,?_⟩;rw[eV];exact iD (λi hi=>(Yq i hi).mono (by omega)) (λi hi=>(Sc i hi).mono (by omega))
    ·exact Ok.ret ⟨_,_,rfl,X4,Ze,Yq⟩
   ·rintro _ ⟨k3,Y3,rfl,X4,Tg,Xn⟩;dsimp only
    (simp (disch:=omega) only [dP,dX,dT,dV])
    exact Ok.ret ⟨⟨_,_,_,rfl,by omega,by omega,X4,Tg,Xn⟩,by dsimp only;omega⟩
  ·exact Ok.ret ⟨_,_,_,_,rfl,YA,Ze,Yq⟩
 rintro _ ⟨a,b,k3,code,rfl,X4,Ze,Yq⟩;dsimp only;refine Ok.bind (P:=λr=>∃k' code,r=(l,k',(),(),(),code,s,d,())/\DOk l k'/\code.length<=63/\∀i∈code,gZ s.length (code.length+1) i) ?_ ?_
 ·(with_reducible refine fh (by assumption) (by omega) (by omega) (λv1 k1 a1 b1 d1=>?_);try dsimp only)
  (with_reducible refine dF (λhcc=>?_) λhcc=>?_)
  ·(simp (disch:=omega) only [dP,dX,dT,dV])
   (with_reducible refine fh (by assumption) (by omega) (by omega) (λv2 k2 a2 b2 d2=>?_);try dsimp only)
   refine dG (dS (by simp;omega)) ?_;refine Ok.ret ⟨_,_,rfl,d2,by rw[eV];simp;omega,?_⟩;rw[eV];exact iD (λi hi=>(Yq i hi).mono (by simp;omega)) (all_cons (K8 (by omega) (by simp;omega)) ef)
  ·(with_reducible refine dF (λhcc=>?_) λhcc=>?_)
   ·refine dG (dS (by simp;omega)) ?_;refine Ok.ret ⟨_,_,rfl,d1,by rw[eV];simp;omega,?_⟩;rw[eV];exact iD (λi hi=>(Yq i hi).mono (by simp;omega)) (all_cons KP ef)
   ·exact Ok.ret ⟨_,_,rfl,d1,by omega,λi hi=>(Yq i hi).mono (by omega)⟩
 rintro _ ⟨k4,Y3,rfl,P9,Tg,Xn⟩;dsimp only
 (with_reducible refine fh (by assumption) (by omega) (by omega) (λv3 k3 a3 b3 d3=>?_);try dsimp only)
 simp only[Ma,JY,oBS];refine dG (dS (by simp;omega)) ?_;simp only[eV];refine Ok.cond (λhc=>?_) λ_=>?_
 ·have ZO:∀i∈List.append Y3 [(1,0,0,0,v3),(23,0,0,0,0)],gZ s.length (Y3.length+1) i:=iD Xn (all_cons (Ap (by omega) (by omega)) (all_cons (um (by omega)) ef));simp only[oDE]at hc
  have P7:(Y3.length:Int)+2>64:=by
   have:((Y3.length + [((1:Int),(0:Int),(0:Int),(0:Int),v3),(23,0,0,0,0)].length:Nat):Int)>64:=hc;simpa using this
  have PY:Y3.length=63:=by omega
  refine dG (by rw[PY];rfl) ?_
  have hlen:(mU (List.append Y3 [((1:Int),(0:Int),(0:Int),(0:Int),v3),(23,0,0,0,0)]) 0 (Nat.sub 64 0)).length=64:=by
   unfold mU;rw[oLT,List.drop_zero,eV,PY];rfl
  have hp:jX (mU (List.append Y3 [((1:Int),(0:Int),(0:Int),(0:Int),v3),(23,0,0,0,0)]) 0 (Nat.sub 64 0)) s d:=by
   refine⟨hs,Tl,ZU,XC,by rw[hlen];decide,λi hi=>?_⟩;rw[hlen];refine(ZO i ?_).mono (by omega);unfold mU at hi;exact List.mem_of_mem_drop (List.mem_of_mem_take hi)
  refine(DW (l:=l) (k:=_) hp).bind ?_;rintro _ ⟨a,b,c,rfl⟩;exact Ok.ret ⟨_,_,_,_,rfl,hp,d3⟩
 ·have hp:jX (List.append Y3 [(1,0,0,0,v3),(23,0,0,0,0)]) s d:=by
   refine⟨hs,Tl,ZU,XC,?_,?_⟩
   ·rw[eV];rename_i hc;have P7:¬((Y3.length + [((1:Int),(0:Int),(0:Int),(0:Int),v3),(23,0,0,0,0)].length:Nat):Int)>64:=of_decide_eq_false hc;simp only[oLC,List.length_nil]at P7⊢;omega
   ·rw[eV];exact iD (λi hi=>(Xn i hi).mono (by simp)) (all_cons (Ap (by omega) (by omega)) (all_cons (um (by omega)) ef))
  have hf:=DW (l:=l) (k:=k3) hp;rw[eV]at hf;refine hf.bind ?_;rintro _ ⟨a,b,c,rfl⟩;exact Ok.ret ⟨_,_,_,_,rfl,hp,d3⟩
theorem Ed{P:Int->Prop}{s:List Int}{i:Nat}{x:Int}(h:∀(j:Nat) y,j<i->s[j]?=some y->P y)(hx:s[i]?=some x)(hp:P x):∀(j:Nat) y,j<i+1->s[j]?=some y->P y:=by
 grind
theorem FP{s:List Int}(hl:s.length<=1000):Ok (gE s) λr=>r.1=true↔vK s:=by
 unfold gE;delta dM
 try dsimp only
 obtain⟨t,e,ht⟩:=fF (f:=kZ) (n:=NN) (s:=(s,s,(s.length:Int),0,())) (P:=λs'=>∃i:Nat,s'=(s,s,(s.length:Int),(i:Int),())/\i<=s.length/\∀(j:Nat) y,j<i->s[j]?=some y->1<=y/\y<=32)
  (R:=λr=>(r=.inl (false,())/\∃y∈s,¬(1<=y/\y<=32))\/((∃a b c d,r=.inr (s,a,b,c,d,()))/\∀y∈s,1<=y/\y<=32)) (m:=λs'=>(s'.2.2.1-s'.2.2.2.1).toNat) ⟨0,rfl,by omega,λj y hj=>by omega⟩ (by unfold NN;dsimp only;omega) (by
   rintro _ ⟨i,rfl,hi,ZO⟩;unfold kZ
   (with_reducible refine dF (λhcc=>?_) λhcc=>?_)
   ·rw[dL];refine Ok.get (by omega) λx hx=>?_
    (with_reducible refine dF (λXx=>?_) λXx=>?_)
    ·exact Ok.ret (.inl ⟨rfl,x,dO hx,by omega⟩)
    ·(with_reducible refine dF (λWu=>?_) λWu=>?_)
     ·exact Ok.ret (.inl ⟨rfl,x,dO hx,by omega⟩)
     ·(simp (disch:=omega) only [dP,dX,dT,dV])
      exact Ok.ret ⟨⟨i+1,rfl,by omega,Ed ZO hx ⟨by omega,by omega⟩⟩,by dsimp only;omega⟩
   ·refine Ok.ret (.inr ⟨⟨_,_,_,_,rfl⟩,λy hy=>?_⟩);have ⟨j,hj⟩:=List.getElem?_of_mem hy
    exact ZO j y (by have:=(oGS hj).1;omega) hj)
 rw[e]
 rcases ht with⟨rfl,y,hy,hn⟩|⟨⟨a,b,c,d,rfl⟩,ZO⟩
 ·exact Ok.ret ⟨λh=>(by cases h),λh=>absurd (h.2.2 y hy) hn⟩
 ·dsimp only
  (with_reducible refine dF (λhcc=>?_) λhcc=>?_)
  ·exact Ok.ret ⟨λh=>⟨by omega,(by have:=of_decide_eq_true h;omega),ZO⟩,λh=>oDT (by have:=h.2.1;omega)⟩
  ·exact Ok.ret ⟨λh=>(by cases h),λh=>by have:=h.1;omega⟩
abbrev VS(xs:List Int):Prop:=vK xs
theorem HJ{l:List Int}{k:Nat}(h:k<l.length):l.getD k 0=l[k]:=by simp[List.getD,h]
def sx(bs ss:List Int)(i:Nat):Prop:=
 0<=bs.getD i 0/\bs.getD i 0+ss.getD i 0<=512/\∀k,k<i->¬(bs.getD i 0<=bs.getD k 0+ss.getD k 0/\bs.getD k 0<=bs.getD i 0+ss.getD i 0)
def LV(bs ss:List Int):Prop:=VS ss/\bs.length=ss.length/\∀i,i<bs.length->sx bs ss i
theorem VS.at_{ss:List Int}(h:VS ss){i:Nat}(hi:i<ss.length):1<=ss[i]/\ss[i]<=32:=h.2.2 _ (List.getElem_mem hi)
def p9(ss:List Int)(seed:Int):Nat->List Int×Int
 |0=>(List.replicate ss.length 0,1+seed/ss.length%50)
 |k+1=>((p9 ss seed k).1.set (((k+seed)%ss.length).toNat) (p9 ss seed k).2,(p9 ss seed k).2+(ss.getD ((k+seed)%ss.length).toNat 0+1+seed/(50*ss.length)%40))
def mkB(ss:List Int)(seed:Int):List Int:=(p9 ss seed ss.length).1
theorem Je(ss:List Int)(seed:Int)(k:Nat):(p9 ss seed k).1.length=ss.length:=by
 induction k with
 |zero=>simp[p9]
 |succ k ih=>simp[p9,ih]
theorem VS.getD{ss:List Int}(h:VS ss){i:Nat}(hi:i<ss.length):1<=ss.getD i 0/\ss.getD i 0<=32:=by rw[HJ hi];exact h.at_ hi
theorem J1{n k:Nat}{seed:Int}(hn:1<=n):0<=((k:Int)+seed)%n/\((k:Int)+seed)%n<n:=
 ⟨Int.emod_nonneg _ (by omega),Int.emod_lt_of_pos _ (by omega)⟩
theorem K1{ss:List Int}{seed:Int}(h:VS ss)(hs:0<=seed)(k:Nat):1<=(p9 ss seed k).2/\(p9 ss seed k).2<=50+72*k:=by
 induction k with
 |zero=>simp[p9];omega
 |succ k ih=>
  simp only[p9];have hr:=J1 (k:=k) (seed:=seed) h.1;have:=h.getD (i:=(((k:Int)+seed)%ss.length).toNat) (by omega);omega
theorem Hl{ss:List Int}(h0:1<=ss.length)(h1:ss.length<=4):(∃a,ss=[a])\/(∃a b,ss=[a,b])\/(∃a b c,ss=[a,b,c])\/(∃a b c d,ss=[a,b,c,d]):=by
 match ss,h0,h1 with
 | [a],_,_=>simp_all
 | [a,b],_,_=>simp_all
 | [a,b,c],_,_=>simp_all
 | [a,b,c,d],_,_=>simp_all
theorem tU{P:Nat->Prop}(h0:P 0):∀i,i<1->P i:=by
 simp_all
theorem xV{P:Nat->Prop}(h0:P 0)(h1:P 1):∀i,i<2->P i:=by
 grind
theorem DA{P:Nat->Prop}(h0:P 0)(h1:P 1)(h2:P 2):∀i,i<3->P i:=by
 grind
theorem IU{P:Nat->Prop}(h0:P 0)(h1:P 1)(h2:P 2)(h3:P 3):∀i,i<4->P i:=by
 grind
def Ik(b s:Int):Prop:=0<=b/\b+s<=512
def fM(b s b' s':Int):Prop:=¬(b<=b'+s'/\b'<=b+s)
theorem LV1{a x:Int}(hv:VS [a])(h:Ik x a):LV [x] [a]:=
 ⟨hv,rfl,tU ⟨h.1,h.2,λk hk=>by omega⟩⟩
theorem LV2{a b x y:Int}(hv:VS [a,b])(h:Ik x a)(h':Ik y b)(h1:fM y b x a):LV [x,y] [a,b]:=
 ⟨hv,rfl,xV ⟨h.1,h.2,λk hk=>by omega⟩ ⟨h'.1,h'.2,tU h1⟩⟩
theorem LV3{a b c x y z:Int}(hv:VS [a,b,c])(h:Ik x a)(h':Ik y b)(S2:Ik z c)(h1:fM y b x a)(h2:fM z c x a)(h3:fM z c y b):LV [x,y,z] [a,b,c]:=
 ⟨hv,rfl,DA ⟨h.1,h.2,λk hk=>by omega⟩ ⟨h'.1,h'.2,tU h1⟩ ⟨S2.1,S2.2,xV h2 h3⟩⟩
theorem LV4{a b c d x y z u:Int}(hv:VS [a,b,c,d])(h:Ik x a)(h':Ik y b)(S2:Ik z c)(S3:Ik u d)(h1:fM y b x a)(h2:fM z c x a)(h3:fM z c y b)(h4:fM u d x a)(h5:fM u d y b)(h6:fM u d z c):LV [x,y,z,u] [a,b,c,d]:=
 ⟨hv,rfl,IU ⟨h.1,h.2,λk hk=>by omega⟩ ⟨h'.1,h'.2,tU h1⟩ ⟨S2.1,S2.2,xV h2 h3⟩ ⟨S3.1,S3.2,DA h4 h5 h6⟩⟩
theorem Mx{ss:List Int}(hv:VS ss){seed:Int}(hs:0<=seed):LV (mkB ss seed) ss:=by
 have Yr:=hv
 rcases Hl hv.1 hv.2.1 with⟨a,rfl⟩|⟨a,b,rfl⟩|⟨a,b,c,rfl⟩|⟨a,b,c,d,rfl⟩
 ·obtain⟨_,_,hx⟩:=hv;have ha:=hx a (by simp)
  have e0:(((0:Nat):Int)+seed)%1=0:=by omega
  have hB:mkB [a] seed=[1+seed/1%50]:=by simp[mkB,p9,List.replicate]
  rw[hB];exact LV1 Yr ⟨by omega,by omega⟩
 ·obtain⟨_,_,hx⟩:=hv;have ha:=hx a (by simp);have hb:=hx b (by simp)
  rcases(show seed%2=0\/seed%2=1 by omega)with ht|ht
  ·have e1:(1+seed)%2=1:=by omega
   simp only[mkB,p9,oLC,List.length_nil,List.replicate];simp[ht,e1];exact LV2 Yr ⟨by omega,by omega⟩ ⟨by omega,by omega⟩ (by unfold fM;omega)
  ·have e1:(1+seed)%2=0:=by omega
   simp only[mkB,p9,oLC,List.length_nil,List.replicate];simp[ht,e1];exact LV2 Yr ⟨by omega,by omega⟩ ⟨by omega,by omega⟩ (by unfold fM;omega)
 ·obtain⟨_,_,hx⟩:=hv;have ha:=hx a (by simp);have hb:=hx b (by simp);have hc:=hx c (by simp)
  rcases(show seed%3=0\/seed%3=1\/seed%3=2 by omega)with ht|ht|ht
  ·have e1:(1+seed)%3=1:=by omega
   have e2:(2+seed)%3=2:=by omega
   simp only[mkB,p9,oLC,List.length_nil,List.replicate];simp[ht,e1,e2];exact LV3 Yr ⟨by omega,by omega⟩ ⟨by omega,by omega⟩ ⟨by omega,by omega⟩ (by unfold fM;omega) (by unfold fM;omega) (by unfold fM;omega)
  ·have e1:(1+seed)%3=2:=by omega
   have e2:(2+seed)%3=0:=by omega
   simp only[mkB,p9,oLC,List.length_nil,List.replicate];simp[ht,e1,e2];exact LV3 Yr ⟨by omega,by omega⟩ ⟨by omega,by omega⟩ ⟨by omega,by omega⟩ (by unfold fM;omega) (by unfold fM;omega) (by unfold fM;omega)
  ·have e1:(1+seed)%3=0:=by omega
   have e2:(2+seed)%3=1:=by omega
   simp only[mkB,p9,oLC,List.length_nil,List.replicate];simp[ht,e1,e2];exact LV3 Yr ⟨by omega,by omega⟩ ⟨by omega,by omega⟩ ⟨by omega,by omega⟩ (by unfold fM;omega) (by unfold fM;omega) (by unfold fM;omega)
 ·obtain⟨_,_,hx⟩:=hv;have ha:=hx a (by simp);have hb:=hx b (by simp);have hc:=hx c (by simp);have hd:=hx d (by simp)
  have hq:∀q g:Int,q=1+seed/4%50->g=seed/(50*4)%40->1<=q/\q<=50/\0<=g/\g<40:=λq g e e'=>by subst e;subst e';omega
  rcases(show seed%4=0\/seed%4=1\/seed%4=2\/seed%4=3 by omega)with ht|ht|ht|ht
  ·have e1:(1+seed)%4=1:=by omega
   have e2:(2+seed)%4=2:=by omega
   have e3:(3+seed)%4=3:=by omega
   simp only[mkB,p9,oLC,List.length_nil,List.replicate];simp[ht,e1,e2,e3];exact LV4 Yr ⟨by omega,by omega⟩ ⟨by omega,by omega⟩ ⟨by omega,by omega⟩ ⟨by omega,by omega⟩ (by unfold fM;omega) (by unfold fM;omega) (by unfold fM;omega) (by unfold fM;omega) (by unfold fM;omega) (by unfold fM;omega)
  ·have e1:(1+seed)%4=2:=by omega
   have e2:(2+seed)%4=3:=by omega
   have e3:(3+seed)%4=0:=by omega
   simp only[mkB,p9,oLC,List.length_nil,List.replicate];simp[ht,e1,e2,e3];exact LV4 Yr ⟨by omega,by omega⟩ ⟨by omega,by omega⟩ ⟨by omega,by omega⟩ ⟨by omega,by omega⟩ (by unfold fM;omega) (by unfold fM;omega) (by unfold fM;omega) (by unfold fM;omega) (by unfold fM;omega) (by unfold fM;omega)
  ·have e1:(1+seed)%4=3:=by omega
   have e2:(2+seed)%4=0:=by omega
   have e3:(3+seed)%4=1:=by omega
   simp only[mkB,p9,oLC,List.length_nil,List.replicate];simp[ht,e1,e2,e3];exact LV4 Yr ⟨by omega,by omega⟩ ⟨by omega,by omega⟩ ⟨by omega,by omega⟩ ⟨by omega,by omega⟩ (by unfold fM;omega) (by unfold fM;omega) (by unfold fM;omega) (by unfold fM;omega) (by unfold fM;omega) (by unfold fM;omega)
  ·have e1:(1+seed)%4=0:=by omega
   have e2:(2+seed)%4=1:=by omega
   have e3:(3+seed)%4=2:=by omega
   simp only[mkB,p9,oLC,List.length_nil,List.replicate];simp[ht,e1,e2,e3];exact LV4 Yr ⟨by omega,by omega⟩ ⟨by omega,by omega⟩ ⟨by omega,by omega⟩ ⟨by omega,by omega⟩ (by unfold fM;omega) (by unfold fM;omega) (by unfold fM;omega) (by unfold fM;omega) (by unfold fM;omega) (by unfold fM;omega)
theorem EZ{α:Type}(l:List α)(i:Nat)(a:α):List.modify l i (λ_=>a)=l.set i a:=by
 apply List.ext_getElem?
 grind
theorem K3{s:List Int}{seed:Int}(hs:vK s)(h0:0<=seed)(h1:seed<=1073741824):Ok (mC s seed) λr=>∃key,r=(mkB s seed,key,0,())/\W16 key:=by
 obtain⟨hs1,XG,hsz⟩:=id hs;unfold mC;delta dM
 try dsimp only
 refine Ok.bind (P:=λr=>r=(s,seed,false,(),0,())) ?_ ?_
 ·refine(FP (by omega)).bind ?_;rintro⟨v,_⟩ hv;have hv:v=true:=hv.2 hs;subst hv;simp only[oNT,oCF]
  (with_reducible refine dF (λZ3=>?_) λZ3=>?_)
  ·omega
  ·exact Ok.ret (by rw[oDF (by omega)])
 rintro _ rfl;dsimp only;refine Ok.cond (λh=>by cases h) λ_=>?_;rw[dL];simp only[oBS];refine dG (by unfold sf;rw[oBA];exact⟨oDT rfl,oDT (by omega)⟩) ?_;refine dG (by rw[bne_iff_ne];omega) ?_;have YE:Int.tdiv seed s.length=seed/s.length:=Int.tdiv_eq_ediv_of_nonneg h0;have hq:0<=seed/(s.length:Int)/\seed/(s.length:Int)<=seed:=⟨Int.ediv_nonneg h0 (by omega),Int.ediv_le_self _ h0⟩;have SD:Int.tmod (seed/(s.length:Int)) 50=seed/(s.length:Int)%50:=Int.tmod_eq_emod_of_nonneg hq.1;rw[YE,dP (x:=seed/(s.length:Int)) (by omega) (by omega),SD,dP (x:=1+seed/(s.length:Int)%50) (by omega) (by omega)]
 have X9:W16 (wk .u16 (w64 (40503*seed))):=by
  unfold wk;rw[xJ];exact⟨by omega,by omega⟩
 generalize wk .u16 (w64 (40503*seed))=key at X9
 refine Ok.loop (P:=λs'=>∃k:Nat,s'=(s,seed,(s.length:Int),(p9 s seed k).2,(s.length:Int),(k:Int),(),0,(p9 s seed k).1,key,())/\k<=s.length) (R:=λr=>∃a b c d e f g h,r=(a,b,c,d,e,f,g,(),h,(p9 s seed s.length).1,key,()))
  (m:=λs'=>(s'.2.2.2.2.1-s'.2.2.2.2.2.1).toNat) ⟨0,rfl,by omega⟩ (by unfold NN;dsimp only;omega) ?_ ?_
 ·rintro _ ⟨k,rfl,hk⟩;unfold oI;dsimp only;have hb:=K1 hs h0 k
  (with_reducible refine dF (λhcc=>?_) λhcc=>?_)
  ·have hr:=J1 (k:=k) (seed:=seed) hs1;rw[dP (x:=(k:Int)+seed) (by omega) (by omega)];refine dG (by rw[bne_iff_ne];omega) ?_;rw[Int.tmod_eq_emod_of_nonneg (show 0<=(k:Int)+seed by omega)];refine Ok.nat hr.1 λr Wc=>?_;have hl:=Je s seed k;refine Ok.get (by omega) λx hx=>?_;refine Ok.get (by omega) λy hy=>?_;refine Ok.nat hr.1 λr2 Pc=>?_
   have:r2=r:=by omega
   subst this;refine Ok.get (by omega) λz hz=>?_;have XJ:=hsz z (dO hz);rw[dP (x:=z+1) (by omega) (by omega),dP (x:=50*(s.length:Int)) (by omega) (by omega)];refine dG (by rw[bne_iff_ne];omega) ?_;have hd2:Int.tdiv seed (50*(s.length:Int))=seed/(50*s.length):=Int.tdiv_eq_ediv_of_nonneg h0;have Yx:0<=seed/(50*(s.length:Int))/\seed/(50*(s.length:Int))<=seed:=⟨Int.ediv_nonneg h0 (by omega),Int.ediv_le_self _ h0⟩;have V6:Int.tmod (seed/(50*(s.length:Int))) 40=seed/(50*s.length)%40:=Int.tmod_eq_emod_of_nonneg Yx.1;rw[hd2,dP (x:=seed/(50*(s.length:Int))) (by omega) (by omega),V6];generalize hg:seed/(50*(s.length:Int))%40=g
   have ZG:0<=g/\g<40:=by omega
   rw[dP (x:=z+1+g) (by omega) (by omega),dP (x:=(p9 s seed k).2+(z+1+g)) (by omega) (by omega),dP (x:=(k:Int)+1) (by omega) (by omega),EZ]
   have e1:(p9 s seed (k+1)).1=(p9 s seed k).1.set r2 (p9 s seed k).2:=by
    simp only[p9];rw[Wc];rfl
   have e2:(p9 s seed (k+1)).2=(p9 s seed k).2+(z+1+g):=by
    simp only[p9];rw[Wc,hg,oTN,oGD,hz];rfl
   refine Ok.ret ⟨⟨k+1,?_,by omega⟩,by dsimp only;omega⟩;rw[e1,e2];rfl
  ·have:k=s.length:=by omega
   subst this;exact Ok.ret ⟨_,_,_,_,_,_,_,_,rfl⟩
 ·rintro _ ⟨a,b,c,d,e,f,g,h,rfl⟩;exact Ok.ret ⟨key,rfl,X9⟩
theorem l8{S T:Type}{f:S->Option (S⊕T)}(st:Nat->S){n N:Nat}{t:T}(hn:n<N)(h:∀i,i<n->Ok (f (st i)) (·=.inl (st (i+1))))(he:Ok (f (st n)) (·=.inr t)):dU f N (st 0)=some t:=by
 have key:∀k i,i+k=n->∀N,k<N->dU f N (st i)=some t:=by
  intro k
  induction k with
  |zero=>
   intro i hi N hN;obtain⟨x,e,hx⟩:=he
   have:i=n:=by omega
   subst this;obtain⟨N',rfl⟩:∃N',N=N'+1:=⟨N-1,by omega⟩;simp[dU,e,hx]
  |succ k ih=>
   intro i hi N hN;have ⟨x,e,hx⟩:=h i (by omega);obtain⟨N',rfl⟩:∃N',N=N'+1:=⟨N-1,by omega⟩;simp[dU,e,hx];exact ih (i+1) (by omega) N' (by omega)
 simp_all
theorem eJ{α:Type}{o:Option α}{a:α}(h:Ok o (·=a)):o=some a:=by
 obtain⟨x,e,rfl⟩:=h;exact e
theorem ee{l:List Int}{k:Nat}{x:Int}(h:l[k]?=some x):l.getD k 0=x:=by simp_all
theorem wX{s:List Int}(h:vK s):gE s=some (true,()):=by
 have ⟨⟨v,u⟩,e,hv⟩:=FP (s:=s) (by have:=h.2.1;omega)
 simp_all
theorem pA{bs ss:List Int}{key:Int}(h:LV bs ss):gz bs key ss=some (true,()):=by
 obtain⟨hs,hl,hr⟩:=h;have h4:=hs.2.1;unfold gz;rw[wX hs];delta dM;simp only[oBS,oNT,oCF,hl,bne_self_eq_false]
 have e:dU i5 NN (ss,bs,(ss.length:Int),0,bs,key,())=some (.inr (ss,bs,(ss.length:Int),(ss.length:Int),false,bs,key,())):=by
  refine l8 (st:=λi=>(ss,bs,(ss.length:Int),(i:Int),bs,key,())) (n:=ss.length) (by unfold NN;omega) ?_ ?_
  ·intro i hi;unfold i5;dsimp only;have SG:=hr i (by omega);unfold sx at SG
   (with_reducible refine dF (λZ'=>?_) λZ'=>?_)
   ·rw[dL];simp only[oBS];refine Ok.get (by omega) λb hb=>?_;rw[ee hb]at SG
    (with_reducible refine dF (λZ3=>?_) λZ3=>?_)
    ·omega
    ·refine Ok.get (by omega) λz hz=>?_;rw[ee hz]at SG;have XJ:=hs.2.2 z (dO hz)
     (simp (disch:=omega) only [dP,dX,dT,dV])
     (with_reducible refine dF (λhcc=>?_) λhcc=>?_)
     ·omega
     ·refine dG (by unfold j0;simp;omega) ?_
      have UI:(mU bs 0 (Nat.sub i 0)).length=i:=by unfold mU;rw[oLT,List.drop_zero];show min i _=i;omega
      rw[UI]
      have e:dU i6 NN (ss,(i:Int),b,bs,(ss.length:Int),(i:Int),mU bs 0 (Nat.sub i 0),(i:Int),0,bs,key,())=some (.inr (ss,(i:Int),b,bs,(ss.length:Int),(i:Int),mU bs 0 (Nat.sub i 0),(i:Int),(i:Int),false,bs,key,())):=by
       refine l8 (st:=λj=>(ss,(i:Int),b,bs,(ss.length:Int),(i:Int),mU bs 0 (Nat.sub i 0),(i:Int),(j:Int),bs,key,())) (n:=i) (by unfold NN;omega) ?_ ?_
       ·intro j hj;unfold i6;dsimp only
        (with_reducible refine dF (λZ'=>?_) λZ'=>?_)
        ·rw[dL,dL];simp only[oBS]
         have hx:(dI (mU bs 0 (Nat.sub i 0)) j)=bs[j]?:=by
          unfold dI mU;rw[List.getElem?_take,List.drop_zero];exact oIP hj
         rw[hx];obtain⟨c,hc⟩:∃c,bs[j]?=some c:=⟨_,oGE (by omega)⟩;obtain⟨y,hy⟩:∃y,ss[j]?=some y:=⟨_,oGE (by omega)⟩;have W6:=hs.2.2 y (dO hy);have VH:dI ss i=some z:=hz;have WV:dI ss j=some y:=hy;rw[hc,VH,WV];simp only[oBS];have SH:=(hr j (by omega)).1;have TY:=(hr j (by omega)).2.1;rw[ee hc]at SH TY;rw[ee hy]at TY;have Wk:=SG.2.2 j hj;rw[ee hc,ee hy]at Wk;rw[dP (x:=b+z) (by omega) (by omega),dP (x:=c+y) (by omega) (by omega)];by_cases h1:b+z>=c
         ·have h2:¬c+y>=b:=by omega
          simp only[h1,h2,decide_true,decide_false,oCT,oCF]
          (simp (disch:=omega) only [dP,dX,dT,dV])
          exact Ok.ret rfl
         ·simp only[h1,decide_false,oCF]
          (simp (disch:=omega) only [dP,dX,dT,dV])
          exact Ok.ret rfl
        ·omega
       ·unfold i6;dsimp only
        (with_reducible refine dF (λZ'=>?_) λZ'=>?_)
        ·omega
        ·exact Ok.ret rfl
      rw[e]
      (simp (disch:=omega) only [dP,dX,dT,dV])
      exact Ok.ret rfl
   ·omega
  ·unfold i5;dsimp only
   (with_reducible refine dF (λZ'=>?_) λZ'=>?_)
   ·omega
   ·exact Ok.ret rfl
 rw[e]
theorem Hx{n m o a b c i:Int}(h:gZ n m (o,a,b,c,i))(hn:n<=4)(hm:m<=64):ln o a b c i=some (true,()):=by
 obtain⟨⟨o0,o1⟩,⟨a0,a1,a2⟩,⟨b0,b1,b2⟩,⟨c0,c1,c2⟩,⟨i0,i1,i2⟩,hl,hs,hj⟩:=h;dsimp only at *
 have Yu:∀(k:Nat)(x:Int)(u:Bool),k<3->[a,b,c][k]?=some x->(k=0->u=ot o)->(k=1->u=oq o)->(k=2->u=oo o)->0<=x->x<8->(u=false->x=0)->
  Ok (i3 (3,(k:Int),o,a,b,c,i,ot o,oq o,oo o,om o,[a,b,c],())) (·=.inl (3,((k+1:Nat):Int),o,a,b,c,i,ot o,oq o,oo o,om o,[a,b,c],())):=by
  intro k x u hk hx h0 h1 h2 ND Z0 Ys;unfold i3;dsimp only
  (with_reducible refine dF (λZ'=>?_) λZ'=>?_)
  ·rw[dL];simp only[oBS];rw[show dI [a,b,c] k=some x from hx];simp only[oBS];rw[oDF (show ¬x<0 by omega),oDF (show ¬x>=8 by omega)];simp only[oCF];have ZX:Ok (some ((3:Int),(k:Int),false,o,a,b,c,i,ot o,oq o,oo o,om o,[a,b,c],())) (·=((3:Int),(k:Int),false,o,a,b,c,i,ot o,oq o,oo o,om o,[a,b,c],())):=Ok.ret rfl
   have UO:u=false->(x != 0)=false:=λh=>by rw[Ys h];rfl
   refine Ok.bind (P:=(·=((3:Int),(k:Int),false,o,a,b,c,i,ot o,oq o,oo o,om o,[a,b,c],()))) ?_ ?_
   ·rcases(show k=0\/k=1\/k=2 by omega)with rfl|rfl|rfl
    ·rw[<- h0 rfl]at ZX⊢;refine dG rfl ?_;refine Ok.cond (λhu=>?_) λ_=>ZX;rw[UO (by simpa using hu)];exact ZX
    ·rw[<- h1 rfl]at ZX⊢;refine Ok.cond (λhu=>by cases hu) λ_=>dG rfl (Ok.cond (λhu=>?_) λ_=>ZX);rw[UO (by simpa using hu)];exact ZX
    ·rw[<- h2 rfl]at ZX⊢;refine Ok.cond (λhu=>by cases hu) λ_=>Ok.cond (λhu=>by cases hu) λ_=>dG rfl (Ok.cond (λhu=>?_) λ_=>ZX);rw[UO (by simpa using hu)];exact ZX
   ·rintro _ rfl;dsimp only;rw[dP (x:=(k:Int)+1) (by omega) (by omega)];exact Ok.ret rfl
  ·omega
 have e:dU i3 NN (3,0,o,a,b,c,i,ot o,oq o,oo o,om o,[a,b,c],())=some (.inr (3,3,false,o,a,b,c,i,ot o,oq o,oo o,om o,[a,b,c],())):=by
  refine l8 (st:=λk=>(3,(k:Int),o,a,b,c,i,ot o,oq o,oo o,om o,[a,b,c],())) (n:=3) (by unfold NN;omega) ?_ ?_
  ·intro k hk
   rcases(show k=0\/k=1\/k=2 by omega)with rfl|rfl|rfl
   ·exact Yu 0 a _ (by omega) rfl (λ_=>rfl) (by omega) (by omega) a0 a1 a2
   ·exact Yu 1 b _ (by omega) rfl (by omega) (λ_=>rfl) (by omega) b0 b1 b2
   ·exact Yu 2 c _ (by omega) rfl (by omega) (by omega) (λ_=>rfl) c0 c1 c2
  ·exact Ok.ret rfl
 refine eJ ?_;unfold ln;rw[oDF (show ¬o<0 by omega),oDF (show ¬o>24 by omega),FQ o0 o1];simp only[oCF,oBS];rw[show dM [a,b,c].length=3 from rfl,e];dsimp only;rw[oDF (show ¬i<0 by omega),oDF (show ¬i>65535 by omega)];simp only[oCF];refine Ok.bind (P:=(·=(false,o,a,b,c,i,()))) ?_ ?_
 ·refine Ok.cond (λhu=>?_) λ_=>Ok.ret rfl;exact Ok.ret (by rw[i2 (by simpa using hu)];rfl)
 rintro _ rfl;dsimp only;rw[uQ];simp only[oCF,oBS];refine Ok.cond (λhu=>?_) λ_=>?_
 ·exact Ok.ret (by rw[oDT (by have:=hj hu;omega)])
 ·(with_reducible refine dF (λhcc=>?_) λhcc=>?_)
  ·exact Ok.ret (by rw[oDT (by have:=hl hcc;omega)])
  ·(with_reducible refine dF (λXx=>?_) λXx=>?_)
   ·exact Ok.ret (by rw[oDT (by have:=hs Xx;omega)])
   ·exact Ok.ret rfl
theorem zG{code:List DIn}{s:List Int}{d:List (List Int)}(h:jX code s d):iw code s d=some (0,()):=by
 have hs:=h.sz;have XG:=hs.2.1;have hc:=h.clen;have hl:=h.len
 have e0:dU iZ NN (d,(d.length:Int),0,code,s,d,())=some (.inr (d,(d.length:Int),(d.length:Int),false,code,s,d,())):=by
  refine l8 (st:=λk=>(d,(d.length:Int),(k:Int),code,s,d,())) (n:=d.length) (by unfold NN;omega) ?_ ?_
  ·intro k hk;unfold iZ;dsimp only
   (with_reducible refine dF (λZ'=>?_) λZ'=>?_)
   ·rw[dL];delta dM;simp only[oBS];refine Ok.get (by omega) λx hx=>?_;refine Ok.get (by omega) λy hy=>?_;have:=h.fit k x y hx hy
    (with_reducible refine dF (λZ3=>?_) λZ3=>?_)
    ·omega
    ·(simp (disch:=omega) only [dP,dX,dT,dV])
     exact Ok.ret rfl
   ·omega
  ·unfold iZ;dsimp only
   (with_reducible refine dF (λZ'=>?_) λZ'=>?_)
   ·omega
   ·exact Ok.ret rfl
 have e1:dU iY NN (code,(code.length:Int),0,code,s,d,())=some (.inr (code,(code.length:Int),(code.length:Int),false,code,s,d,())):=by
  refine l8 (st:=λk=>(code,(code.length:Int),(k:Int),code,s,d,())) (n:=code.length) (by unfold NN;omega) ?_ ?_
  ·intro k hk;unfold iY;dsimp only
   (with_reducible refine dF (λZ'=>?_) λZ'=>?_)
   ·rw[dL];simp only[oBS];refine Ok.get (by omega) λx hx=>?_;obtain⟨o,a,b,c,i⟩:=x;rw[Hx (h.ins _ (dO hx)) (by omega) (by omega)]
    (simp (disch:=omega) only [dP,dX,dT,dV])
    exact Ok.ret rfl
   ·omega
  ·unfold iY;dsimp only
   (with_reducible refine dF (λZ'=>?_) λZ'=>?_)
   ·omega
   ·exact Ok.ret rfl
 have e3:dU iX NN (code,(code.length:Int),0,code,s,d,())=some (.inr (code,(code.length:Int),(code.length:Int),false,code,s,d,())):=by
  refine l8 (st:=λk=>(code,(code.length:Int),(k:Int),code,s,d,())) (n:=code.length) (by unfold NN;omega) ?_ ?_
  ·intro k hk;unfold iX;dsimp only
   (with_reducible refine dF (λZ'=>?_) λZ'=>?_)
   ·rw[dL];simp only[oBS];refine Ok.get (by omega) λx hx=>?_;have hp:=h.ins x (dO hx);rw[uQ];simp only[oBS];refine Ok.bind (P:=(·=(code,(code.length:Int),(k:Int),false,code,s,d,()))) ?_ ?_
    ·refine Ok.cond (λhj=>?_) λ_=>?_
     ·have:=hp.jmp hj
      (with_reducible refine dF (λZ3=>?_) λZ3=>?_)
      ·have Z3:x.2.2.2.2>=(code.length:Int):=Z3;omega
      ·(with_reducible refine dF (λhcc=>?_) λhcc=>?_)
       ·exact Ok.ret (by rw[oDF (show ¬x.2.2.2.2>=dM s.length by rw[dV];have:=hp.lea hcc;omega)])
       ·exact Ok.ret rfl
     ·(with_reducible refine dF (λhcc=>?_) λhcc=>?_)
      ·exact Ok.ret (by rw[oDF (show ¬x.2.2.2.2>=dM s.length by rw[dV];have:=hp.lea hcc;omega)])
      ·exact Ok.ret rfl
    ·rintro _ rfl;dsimp only;simp only[oCF]
     (simp (disch:=omega) only [dP,dX,dT,dV])
     exact Ok.ret rfl
   ·omega
  ·unfold iX;dsimp only
   (with_reducible refine dF (λZ'=>?_) λZ'=>?_)
   ·omega
   ·exact Ok.ret rfl
 refine eJ ?_;unfold iw;rw[wX hs];delta dM;simp only[oBS,oNT,oCF,hl,bne_self_eq_false];rw[hl]at e0;rw[e0];dsimp only
 (with_reducible refine dF (λZ'=>?_) λZ'=>?_)
 ·omega
 ·(with_reducible refine dF (λZ3=>?_) λZ3=>?_)
  ·omega
  ·rw[e1];dsimp only;rw[e3];exact Ok.ret rfl
def RK(bs ss:List Int)(a:Int):Prop:=∃(j:Nat)(b z:Int),bs[j]?=some b/\ss[j]?=some z/\b<=a/\a<b+z
def mg(K:Int->Prop)(c:DCe):Prop:=0<=c.1/\c.1<=2/\0<=c.2/\c.2<=65535/\(c.1=1->K c.2)
theorem mg.mono{K K':Int->Prop}{c:DCe}(h:mg K c)(hk:∀a,K a->K' a):mg K' c:=⟨h.1,h.2.1,h.2.2.1,h.2.2.2.1,λe=>hk _ (h.2.2.2.2 e)⟩
theorem kS{K:Int->Prop}{v:Int}(h:0<=v/\v<=65535):mg K (0,v):=⟨by omega,by omega,h.1,h.2,λe=>absurd (show(0:Int)=1 from e) (by decide)⟩
def Mw(K:Int->Prop)(i:Nat)(x:DLn):Prop:=(x.1=-1/\x.2.1=false/\x.2.2=[])\/(0<=x.1/\x.1<128/\x.1%4=i/\x.2.2.length=4/\∀c∈x.2.2,mg K c)
def ML(cs:List DCe)(x:DLn):Prop:=x.1=-1\/x.2.1=true\/∀o:Nat,o<4->cs[(x.1*4).toNat+o]?=x.2.2[o]?
structure jl (K:Int->Prop)(cs:List DCe)(ls:List DLn):Prop where
 clen:cs.length=512
 cells:∀c∈cs,mg K c
 llen:ls.length=4
 lines:∀(i:Nat) x,ls[i]?=some x->Mw K i x
 coh:∀(i:Nat) x,ls[i]?=some x->ML cs x
structure vJ (K:Int->Prop)(n:Int)(t:DTh):Prop where
 state:0<=t.1/\t.1<=4
 len:t.2.1.length=8
 regs:∀c∈t.2.1,mg K c
 pc:0<=t.2.2.1/\t.2.2.1<=255
 count:0<=t.2.2.2.1/\t.2.2.2.1<=n
 handler:-1<=t.2.2.2.2.1/\t.2.2.2.2.1<=255
 saved:-1<=t.2.2.2.2.2.1/\t.2.2.2.2.2.1<=255
 trap:0<=t.2.2.2.2.2.2.1/\t.2.2.2.2.2.2.1<=6
 code:W16 t.2.2.2.2.2.2.2
structure MOk (n:Int)(ss bs:List Int)(cs:List DCe)(ls:List DLn)(ts:List DTh):Prop where
 lay:LV bs ss
 mem:jl (RK bs ss) cs ls
 tlen:ts.length=4
 thr:∀t∈ts,vJ (RK bs ss) n t
theorem Ee{K:Int->Prop}{l:List DCe}(hl:l.length<=1000)(h:∀c∈l,mg K c):lX l=some (true,()):=by
 have e:dU kx NN (l,(l.length:Int),0,())=some (.inr (l,(l.length:Int),(l.length:Int),false,())):=by
  refine l8 (st:=λk=>(l,(l.length:Int),(k:Int),())) (n:=l.length) (by unfold NN;omega) ?_ ?_
  ·intro k hk;unfold kx
   (with_reducible refine dF (λZ'=>?_) λZ'=>?_)
   ·rw[dL];refine Ok.get (by omega) λx hx=>?_;have:=h x (dO hx);unfold jJ;rw[oDT (show x.1<=2 from this.2.1)]
    (simp (disch:=omega) only [dP,dX,dT,dV])
    exact Ok.ret rfl
   ·omega
  ·unfold kx
   (with_reducible refine dF (λZ'=>?_) λZ'=>?_)
   ·omega
   ·exact Ok.ret rfl
 refine eJ ?_;unfold lX;delta dM
 try dsimp only
 rw[e];exact Ok.ret rfl
theorem Eo{K:Int->Prop}{cs:List DCe}{ls:List DLn}(h:jl K cs ls):lp cs ls=some (true,()):=by
 obtain⟨h1,h2,h3,h4,_⟩:=h
 have e:dU i4 NN (ls,4,0,cs,ls,())=some (.inr (ls,4,4,false,cs,ls,())):=by
  refine l8 (st:=λk=>(ls,4,(k:Int),cs,ls,())) (n:=4) (by unfold NN;omega) ?_ ?_
  ·intro k hk;unfold i4;dsimp only
   (with_reducible refine dF (λZ'=>?_) λZ'=>?_)
   ·rw[dL];simp only[oBS];refine Ok.get (by omega) λx hx=>?_
    rcases h4 k x hx with⟨e1,e2,e3⟩|⟨g1,g2,g3,g4,g5⟩
    ·rw[e1,e2,e3]
     (simp (disch:=omega) only [dP,dX,dT,dV])
     exact Ok.ret rfl
    ·rw[show(x.1==-1)=false by rw[beq_eq_false_iff_ne];omega,oDF (show ¬x.1<0 by omega),oDF (show ¬x.1>=128 by omega),Int.tmod_eq_emod_of_nonneg g1,g3,g4,Ee (by omega) g5];simp;refine Ok.bind (P:=(·=(ls,4,(k:Int),false,cs,ls,()))) ?_ ?_
     ·refine Ok.cond (λh=>by cases h) λ_=>Ok.ret rfl
     ·rintro _ rfl;dsimp only;simp only[oCF]
      (simp (disch:=omega) only [dP,dX,dT,dV])
      exact Ok.ret rfl
   ·omega
  ·unfold i4;exact Ok.ret rfl
 refine eJ ?_;unfold lp;delta dM;simp only[h1,h3,Ee (show cs.length<=1000 by omega) h2,oBS,oNT];refine Ok.bind (P:=(·=(false,cs,ls,()))) ?_ ?_
 ·exact Ok.ret rfl
 ·rintro _ rfl;dsimp only;simp only[oCF];rw[h3,show((4:Nat):Int)=4 from rfl,e];exact Ok.ret rfl
theorem En{K:Int->Prop}{t:DTh}(h:vJ K 1099511627776 t):lk t.1 t.2.1 t.2.2.1 t.2.2.2.1 t.2.2.2.2.1 t.2.2.2.2.2.1 t.2.2.2.2.2.2.1 t.2.2.2.2.2.2.2=some (true,()):=by
 obtain⟨⟨a1,a2⟩,hl,hr,⟨b1,b2⟩,⟨c1,c2⟩,⟨d1,d2⟩,⟨e1,e2⟩,⟨f1,f2⟩,_⟩:=h;obtain⟨s,rs,pc,ct,ha,sa,tr,co⟩:=t;dsimp only at *
 have e:dU iW NN (rs,(rs.length:Int),0,s,rs,pc,ct,ha,sa,tr,co,())=some (.inr (rs,(rs.length:Int),(rs.length:Int),false,s,rs,pc,ct,ha,sa,tr,co,())):=by
  refine l8 (st:=λk=>(rs,(rs.length:Int),(k:Int),s,rs,pc,ct,ha,sa,tr,co,())) (n:=rs.length) (by unfold NN;omega) ?_ ?_
  ·intro k hk;unfold iW
   (with_reducible refine dF (λZ'=>?_) λZ'=>?_)
   ·rw[dL];refine Ok.get (by omega) λx hx=>?_;have:=hr x (dO hx);unfold jJ;rw[oDT (show x.1<=2 from this.2.1)]
    (simp (disch:=omega) only [dP,dX,dT,dV])
    exact Ok.ret rfl
   ·omega
  ·unfold iW
   (with_reducible refine dF (λZ'=>?_) λZ'=>?_)
   ·omega
   ·exact Ok.ret rfl
 refine eJ ?_;unfold lk;delta dM
 try dsimp only
 rw[e];dsimp only;rw[hl];refine dG (oDT a1) (dG (oDT a2) (dG rfl (dG (oDT b1) (dG (oDT b2) (dG (oDT c1) (dG (oDT c2) (dG (oDT d1) (dG (oDT d2) (dG (oDT e1) (dG (oDT e2) (dG (oDT f1) ?_)))))))))));exact Ok.ret (by simp_all)
theorem rQ{code:List DIn}{ss bs:List Int}{d:List (List Int)}{n key:Int}{cs:List DCe}{ls:List DLn}{ts:List DTh}(hp:jX code ss d)(h:MOk n ss bs cs ls ts)(hn:n<=1099511627776):iv code ss d bs key cs ls ts=some (true,()):=by
 have ⟨h1,h2,h3,h4⟩:=h
 have e:dU kY NN (ts,4,0,bs,key,cs,ls,ts,())=some (.inr (ts,4,4,false,bs,key,cs,ls,ts,())):=by
  refine l8 (st:=λk=>(ts,4,(k:Int),bs,key,cs,ls,ts,())) (n:=4) (by unfold NN;omega) ?_ ?_
  ·intro k hk;unfold kY
   (with_reducible refine dF (λZ'=>?_) λZ'=>?_)
   ·rw[dL];refine Ok.get (by omega) λx hx=>?_;have ht:=h4 x (dO hx);rw[En ⟨ht.state,ht.len,ht.regs,ht.pc,⟨ht.count.1,by have:=ht.count.2;omega⟩,ht.handler,ht.saved,ht.trap,ht.code⟩]
    (simp (disch:=omega) only [dP,dX,dT,dV])
    exact Ok.ret rfl
   ·omega
  ·exact Ok.ret rfl
 refine eJ ?_;unfold iv;rw[zG hp,pA h1,Eo h2];delta dM;simp only[oBS,oNT,oCF,bne_self_eq_false,h3];rw[show((4:Nat):Int)=4 from rfl,e];exact Ok.ret rfl
def eU:List DLn:=[(-1,false,[]),(-1,false,[]),(-1,false,[]),(-1,false,[])]
theorem D1:lq=some (eU,()):=by kernel_rfl
theorem Bw{K:Int->Prop}{cs:List DCe}(h:cs.length=512)(hc:∀c∈cs,mg K c):jl K cs eU:=by
 have key:∀(i:Nat) x,eU[i]?=some x->x=(-1,false,[]):=λi x hx=>by
  have:=dO hx;simp[eU]at this;exact this
 exact⟨h,hc,rfl,λi x hx=>by rw[key i x hx];exact .inl ⟨rfl,rfl,rfl⟩,λi x hx=>by rw[key i x hx];exact .inl rfl⟩
theorem iz{α:Type}{P:α->Prop}{l:List α}{i:Nat}{f:α->α}(h:∀x∈l,P x)(hf:∀x,P x->P (f x)):∀x∈List.modify l i f,P x:=by
 intro x hx;have ⟨j,hj⟩:=List.getElem?_of_mem hx
 grind
theorem K5{code:List DIn}{ss bs:List Int}{d:List (List Int)}{key:Int}(hp:jX code ss d)(hl:LV bs ss):Ok (mA code ss d bs key) λr=>∃cs,r=(cs,eU,0,())/\cs.length=512/\∀c∈cs,mg (λ_=>False) c:=by
 unfold mA;rw[pA hl,D1];delta dM;simp only[oBS,oNT,oCF,hp.len,bne_self_eq_false];refine dG (by decide) ?_
 obtain⟨t,e,ht⟩:=fF (f:=lY) (n:=NN) (s:=(d,(ss.length:Int),0,code,ss,d,bs,key,(),(),List.replicate 512 (0,0),eU,()))
  (P:=λs'=>∃k:Nat,∃cs,s'=(d,(ss.length:Int),(k:Int),code,ss,d,bs,key,(),(),cs,eU,())/\k<=ss.length/\cs.length=512/\∀c∈cs,mg (λ_=>False) c)
  (R:=λr=>∃a b c e cs,r=.inr (a,b,c,e,code,ss,d,bs,key,(),(),cs,eU,())/\cs.length=512/\∀c∈cs,mg (λ_=>False) c) (m:=λs'=>(s'.2.1-s'.2.2.1).toNat)
  ⟨0,_,rfl,by omega,List.length_replicate,λc hc=>by rw[List.eq_of_mem_replicate hc];exact kS (by decide)⟩ (by unfold NN;dsimp only;have:=hp.sz.2.1;omega) (by
   rintro _ ⟨k,cs,rfl,hk,ZS,ZK⟩;unfold lY;dsimp only;have hlen:=hp.len;have XG:=hp.sz.2.1
   (with_reducible refine dF (λZ'=>?_) λZ'=>?_)
   ·rw[dL];delta dM;simp only[oBS];refine Ok.get (by omega) λx hx=>?_;refine Ok.get (by omega) λy hy=>?_;have hf:=hp.fit k x y hx hy;have XC:=hp.num x (dO hx);obtain⟨_,S9,hr⟩:=hl;have WJ:=hr k (by omega);unfold sx at WJ;obtain⟨b,hb⟩:∃b,bs[k]?=some b:=⟨_,oGE (by omega)⟩;rw[ee hb,ee hy]at WJ
    (with_reducible refine dF (λZ3=>?_) λZ3=>?_)
    ·omega
    ·refine Ok.loop (P:=λs'=>∃j:Nat,∃cs,s'=((k:Int),d,(ss.length:Int),(k:Int),x,(x.length:Int),(j:Int),code,ss,d,bs,key,(),(),cs,eU,())/\j<=x.length/\cs.length=512/\∀c∈cs,mg (λ_=>False) c)
      (R:=λr=>∃a b c e cs,r=(a,d,(ss.length:Int),(k:Int),b,c,e,false,code,ss,d,bs,key,(),(),cs,eU,())/\cs.length=512/\∀c∈cs,mg (λ_=>False) c) (m:=λs'=>(s'.2.2.2.2.2.1-s'.2.2.2.2.2.2.1).toNat)
      ⟨0,cs,rfl,by omega,ZS,ZK⟩ (by unfold NN;dsimp only;omega) ?_ ?_
     ·rintro _ ⟨j,cs,rfl,hj,ZS,ZK⟩;unfold oH;dsimp only
      (with_reducible refine dF (λhcc=>?_) λhcc=>?_)
      ·rw[dL,dL];simp only[oBS];refine Ok.get (by omega) λv hv=>?_;have W3:=XC v (dO hv);rw[show dI bs k=some b from hb];simp only[oBS]
       (simp (disch:=omega) only [dP,dX,dT,dV])
       refine Ok.nat (by omega) λa ha=>?_;refine Ok.get (by omega) λc hc=>?_;refine Ok.get (by omega) λc' Yz=>?_;exact Ok.ret ⟨⟨j+1,_,rfl,by omega,by rw[oLM];exact ZS,iz ZK λz hz=>⟨hz.1,hz.2.1,W3.1,W3.2,hz.2.2.2.2⟩⟩,by dsimp only;omega⟩
      ·exact Ok.ret ⟨_,_,_,_,_,rfl,ZS,ZK⟩
     ·rintro _ ⟨a,b,c,e,cs,rfl,ZS,ZK⟩;dsimp only
      (simp (disch:=omega) only [dP,dX,dT,dV])
      exact Ok.ret ⟨⟨k+1,_,rfl,by omega,ZS,ZK⟩,by dsimp only;omega⟩
   ·exact Ok.ret ⟨_,_,_,_,_,rfl,ZS,ZK⟩)
 rw[e];obtain⟨a,b,c,e,cs,rfl,ZS,ZK⟩:=ht;exact Ok.ret ⟨cs,rfl,ZS,ZK⟩
end Go.Proofs.YtilofbdgkiloiaaGreat
