/- part -/
import Derived.Test.YtmleeodfmmpdgaaGreatDoorQ01
